/-
  Contracts and plain laws that this claim leans on, part 2.
-/
import Derived.Test.YtpboaadjbkaidaaDoorPackV1
import Derived.Lib.SplitLaws
import Derived.Lib.Split
import Derived.Lib.IndexMore
import Derived.Deep.LoopGhost
import Derived.Deep.MidRow
import Derived.StillTailTactics
import Derived.Deep.RegionLaw
import Derived.Deep.DeepCutAuto
import Derived.Deep.CutBlock
import Derived.Deep.RegionWith
import Derived.BigRegion
import Derived.Deep.RegionHeld3
import Derived.Great.BuildSlice
import Derived.LaidMore
import Derived.Laws.CopyOwn
import Derived.Laws.ResultCell
import Derived.Laws.Tables
import Derived.Lay
import Derived.Lib.Bytealg
import Derived.Lib.SliceRun
import Derived.Lib.SmallJoins
import Derived.Lib.Walk
import Derived.Maps.Own
import Derived.Maps.OwnOps
import Derived.Maps.Views
import Derived.OpenShut
import Derived.ProofKit
import Derived.SizedLaws
import Derived.Stop.Joined
import Derived.Shelf.Vars
set_option linter.unusedVariables false
set_option linter.unusedSimpArgs false
namespace Go.Proofs.YtpboaadjbkaidaaDoor
set_option maxRecDepth 100000
open Go.RowKit

theorem more_quietb (w : World) (R : Nat) (s : ByteArray) (i : Nat) (bad : Bool) (n : Nat) {b : Bool} (h : ScIn w R s i bad) (hs : s.size ≤ maxLen) (hb : decide (i < s.size) = b) :
    Calls Tryd.prog 120 #[.pointer (some ⟨R, 0, none⟩)] (w.drewN n) fun e w' => e = .returned (.bool b) ∧ ∃ m, w' = w.drewN m := by
  subst hb
  exact more_quiet w R s i bad n h hs
theorem more_quietb_add (w : World) (R : Nat) (s : ByteArray) (i : Nat) (bad : Bool) (a n : Nat) {b : Bool} (h : ScIn w R s i bad) (hs : s.size ≤ maxLen) (hb : decide (i < s.size) = b) :
    Calls Tryd.prog 120 #[.pointer (some ⟨R, 0, none⟩)] (w.drewN (a + n)) fun e w' => e = .returned (.bool b) ∧ ∃ m, w' = w.drewN (a + m) := by
  subst hb
  exact more_quiet_add w R s i bad a n h hs
theorem Only.two {g h : Nat} {a b c : World} (x : Only g a b) (y : Two g h b c) (hh : a.heap.size ≤ h) : Only g a c := ((Two.ofL x (h := h)).trans y).onlyL hh
/-- The members of a set in brackets; m: there was one. -/
def memsF (s : ByteArray) : Nat → Nat → Bool → (Nat → Bool) → (Nat → Bool) × Nat × Bool
  | 0, i, _, _ => (noP, i, true)
  | f + 1, i, m, p =>
    if i < s.size then
      if bt s i = 93 ∧ m = true then (p, i + 1, false)
      else if (memberF s i p).2.2 = true then (noP, (memberF s i p).2.1, true)
      else memsF s f (memberF s i p).2.1 true (memberF s i p).1
    else (noP, i, true)
def finishF (inv : Bool) (r : (Nat → Bool) × Nat × Bool) : SR := if r.2.2 = true then badR r.2.1 else ⟨if inv = true then notP r.1 else r.1, 0, false, r.2.1, false⟩
def bracketsF (s : ByteArray) (i : Nat) : SR :=
  if i + 1 < s.size ∧ bt s (i + 1) = 94 then finishF true (memsF s (s.size + 1) (i + 1 + 1) false noP) else finishF false (memsF s (s.size + 1) (i + 1) false noP)

set_option maxRecDepth 100000 in
set_option maxHeartbeats 8000000 in
theorem brackets_any (w : World) (R : Nat) (s : ByteArray) (i : Nat) (h : ScIn w R s i false) (hi : i < s.size) (hs : s.size ≤ 2147483648) :
    Calls Tryd.prog 129 #[.pointer (some ⟨R, 0, none⟩)] w fun e w' => e = .returned (.agg (setC (bracketsF s i).p).toArray) ∧ ScIn w' R s (bracketsF s i).j (bracketsF s i).bad ∧ Only R w w' := by
  have hR := h.lt
  have hRG1 : R ≠ w.heap.size := by omega
  have hRG2 : R ≠ w.heap.size + 1 := by omega
  have hb1 := (Below.refl _ w).alloc (Nat.le_refl _) (.cells #[.int .u8 0, .int .u8 0, .int .u8 0, .int .u8 0, .int .u8 0, .int .u8 0, .int .u8 0, .int .u8 0, .int .u8 0, .int .u8 0, .int .u8 0, .int .u8 0, .int .u8 0, .int .u8 0, .int .u8 0, .int .u8 0, .int .u8 0, .int .u8 0, .int .u8 0, .int .u8 0, .int .u8 0, .int .u8 0, .int .u8 0, .int .u8 0, .int .u8 0, .int .u8 0, .int .u8 0, .int .u8 0, .int .u8 0, .int .u8 0, .int .u8 0, .int .u8 0] 138)
  have hb2 := hb1.alloc (by simp) (.cells #[.int .u8 0, .int .u8 0, .int .u8 0, .int .u8 0, .int .u8 0, .int .u8 0, .int .u8 0, .int .u8 0, .int .u8 0, .int .u8 0, .int .u8 0, .int .u8 0, .int .u8 0, .int .u8 0, .int .u8 0, .int .u8 0, .int .u8 0, .int .u8 0, .int .u8 0, .int .u8 0, .int .u8 0, .int .u8 0, .int .u8 0, .int .u8 0, .int .u8 0, .int .u8 0, .int .u8 0, .int .u8 0, .int .u8 0, .int .u8 0, .int .u8 0, .int .u8 0] 138)
  have HS0 : Hid (ScIn ((w.alloc (.cells #[.int .u8 0, .int .u8 0, .int .u8 0, .int .u8 0, .int .u8 0, .int .u8 0, .int .u8 0, .int .u8 0, .int .u8 0, .int .u8 0, .int .u8 0, .int .u8 0, .int .u8 0, .int .u8 0, .int .u8 0, .int .u8 0, .int .u8 0, .int .u8 0, .int .u8 0, .int .u8 0, .int .u8 0, .int .u8 0, .int .u8 0, .int .u8 0, .int .u8 0, .int .u8 0, .int .u8 0, .int .u8 0, .int .u8 0, .int .u8 0, .int .u8 0, .int .u8 0] 138)).alloc (.cells #[.int .u8 0, .int .u8 0, .int .u8 0, .int .u8 0, .int .u8 0, .int .u8 0, .int .u8 0, .int .u8 0, .int .u8 0, .int .u8 0, .int .u8 0, .int .u8 0, .int .u8 0, .int .u8 0, .int .u8 0, .int .u8 0, .int .u8 0, .int .u8 0, .int .u8 0, .int .u8 0, .int .u8 0, .int .u8 0, .int .u8 0, .int .u8 0, .int .u8 0, .int .u8 0, .int .u8 0, .int .u8 0, .int .u8 0, .int .u8 0, .int .u8 0, .int .u8 0] 138)) R s i false) := h.below hb2
  have HA0 : Hid (SetIn ((w.alloc (.cells #[.int .u8 0, .int .u8 0, .int .u8 0, .int .u8 0, .int .u8 0, .int .u8 0, .int .u8 0, .int .u8 0, .int .u8 0, .int .u8 0, .int .u8 0, .int .u8 0, .int .u8 0, .int .u8 0, .int .u8 0, .int .u8 0, .int .u8 0, .int .u8 0, .int .u8 0, .int .u8 0, .int .u8 0, .int .u8 0, .int .u8 0, .int .u8 0, .int .u8 0, .int .u8 0, .int .u8 0, .int .u8 0, .int .u8 0, .int .u8 0, .int .u8 0, .int .u8 0] 138)).alloc (.cells #[.int .u8 0, .int .u8 0, .int .u8 0, .int .u8 0, .int .u8 0, .int .u8 0, .int .u8 0, .int .u8 0, .int .u8 0, .int .u8 0, .int .u8 0, .int .u8 0, .int .u8 0, .int .u8 0, .int .u8 0, .int .u8 0, .int .u8 0, .int .u8 0, .int .u8 0, .int .u8 0, .int .u8 0, .int .u8 0, .int .u8 0, .int .u8 0, .int .u8 0, .int .u8 0, .int .u8 0, .int .u8 0, .int .u8 0, .int .u8 0, .int .u8 0, .int .u8 0] 138)) w.heap.size 138 noP) := (zero_in w 138).keep (Below.heap_alloc _ _ _ (by simp))
  have HP0 : Hid (SetIn ((w.alloc (.cells #[.int .u8 0, .int .u8 0, .int .u8 0, .int .u8 0, .int .u8 0, .int .u8 0, .int .u8 0, .int .u8 0, .int .u8 0, .int .u8 0, .int .u8 0, .int .u8 0, .int .u8 0, .int .u8 0, .int .u8 0, .int .u8 0, .int .u8 0, .int .u8 0, .int .u8 0, .int .u8 0, .int .u8 0, .int .u8 0, .int .u8 0, .int .u8 0, .int .u8 0, .int .u8 0, .int .u8 0, .int .u8 0, .int .u8 0, .int .u8 0, .int .u8 0, .int .u8 0] 138)).alloc (.cells #[.int .u8 0, .int .u8 0, .int .u8 0, .int .u8 0, .int .u8 0, .int .u8 0, .int .u8 0, .int .u8 0, .int .u8 0, .int .u8 0, .int .u8 0, .int .u8 0, .int .u8 0, .int .u8 0, .int .u8 0, .int .u8 0, .int .u8 0, .int .u8 0, .int .u8 0, .int .u8 0, .int .u8 0, .int .u8 0, .int .u8 0, .int .u8 0, .int .u8 0, .int .u8 0, .int .u8 0, .int .u8 0, .int .u8 0, .int .u8 0, .int .u8 0, .int .u8 0] 138)) (w.heap.size + 1) 138 noP) := by
    have h := zero_in (w.alloc (.cells #[.int .u8 0, .int .u8 0, .int .u8 0, .int .u8 0, .int .u8 0, .int .u8 0, .int .u8 0, .int .u8 0, .int .u8 0, .int .u8 0, .int .u8 0, .int .u8 0, .int .u8 0, .int .u8 0, .int .u8 0, .int .u8 0, .int .u8 0, .int .u8 0, .int .u8 0, .int .u8 0, .int .u8 0, .int .u8 0, .int .u8 0, .int .u8 0, .int .u8 0, .int .u8 0, .int .u8 0, .int .u8 0, .int .u8 0, .int .u8 0, .int .u8 0, .int .u8 0] 138)) 138
    rw [show (w.alloc (.cells #[.int .u8 0, .int .u8 0, .int .u8 0, .int .u8 0, .int .u8 0, .int .u8 0, .int .u8 0, .int .u8 0, .int .u8 0, .int .u8 0, .int .u8 0, .int .u8 0, .int .u8 0, .int .u8 0, .int .u8 0, .int .u8 0, .int .u8 0, .int .u8 0, .int .u8 0, .int .u8 0, .int .u8 0, .int .u8 0, .int .u8 0, .int .u8 0, .int .u8 0, .int .u8 0, .int .u8 0, .int .u8 0, .int .u8 0, .int .u8 0, .int .u8 0, .int .u8 0] 138)).heap.size = w.heap.size + 1 by simp] at h
    exact h
  have HO0 : Hid (Only R w ((w.alloc (.cells #[.int .u8 0, .int .u8 0, .int .u8 0, .int .u8 0, .int .u8 0, .int .u8 0, .int .u8 0, .int .u8 0, .int .u8 0, .int .u8 0, .int .u8 0, .int .u8 0, .int .u8 0, .int .u8 0, .int .u8 0, .int .u8 0, .int .u8 0, .int .u8 0, .int .u8 0, .int .u8 0, .int .u8 0, .int .u8 0, .int .u8 0, .int .u8 0, .int .u8 0, .int .u8 0, .int .u8 0, .int .u8 0, .int .u8 0, .int .u8 0, .int .u8 0, .int .u8 0] 138)).alloc (.cells #[.int .u8 0, .int .u8 0, .int .u8 0, .int .u8 0, .int .u8 0, .int .u8 0, .int .u8 0, .int .u8 0, .int .u8 0, .int .u8 0, .int .u8 0, .int .u8 0, .int .u8 0, .int .u8 0, .int .u8 0, .int .u8 0, .int .u8 0, .int .u8 0, .int .u8 0, .int .u8 0, .int .u8 0, .int .u8 0, .int .u8 0, .int .u8 0, .int .u8 0, .int .u8 0, .int .u8 0, .int .u8 0, .int .u8 0, .int .u8 0, .int .u8 0, .int .u8 0] 138))) := (Only.refl R w).bel hb2
  clear h hb1 hb2
  obtain ⟨k1, HK1⟩ : ∃ k1, Hid (k1 = i + 1) := ⟨_, rfl⟩
  have hk1a : i < k1 := by have := HK1.out; omega
  have hk1b : k1 < i + 2 := by have := HK1.out; omega
  have hk1c : k1 ≤ s.size := by omega
  generalize hfin : bracketsF s i = fin
  have HFI := Lib.hid hfin
  clear hfin
  go_enter Tryd.func129, Tryd.ntmps129
  go_upto_region 2 with fail
  generalize (w.alloc (.cells #[.int .u8 0, .int .u8 0, .int .u8 0, .int .u8 0, .int .u8 0, .int .u8 0, .int .u8 0, .int .u8 0, .int .u8 0, .int .u8 0, .int .u8 0, .int .u8 0, .int .u8 0, .int .u8 0, .int .u8 0, .int .u8 0, .int .u8 0, .int .u8 0, .int .u8 0, .int .u8 0, .int .u8 0, .int .u8 0, .int .u8 0, .int .u8 0, .int .u8 0, .int .u8 0, .int .u8 0, .int .u8 0, .int .u8 0, .int .u8 0, .int .u8 0, .int .u8 0] 138)).alloc (.cells #[.int .u8 0, .int .u8 0, .int .u8 0, .int .u8 0, .int .u8 0, .int .u8 0, .int .u8 0, .int .u8 0, .int .u8 0, .int .u8 0, .int .u8 0, .int .u8 0, .int .u8 0, .int .u8 0, .int .u8 0, .int .u8 0, .int .u8 0, .int .u8 0, .int .u8 0, .int .u8 0, .int .u8 0, .int .u8 0, .int .u8 0, .int .u8 0, .int .u8 0, .int .u8 0, .int .u8 0, .int .u8 0, .int .u8 0, .int .u8 0, .int .u8 0, .int .u8 0] 138) = wa at HS0 HA0 HP0 HO0
  have q1 := HS0.out.c1
  have f1 := HS0.out.free 1
  go_upto_region 3 with fail
  rw [show (i : Int) + 1 = (k1 : Int) by omega]
  have HS1 := Lib.hid (HS0.out.set1 k1)
  have HA1 := Lib.hid (HA0.out.other (Ne.symm hRG1) 1 (.int .i64 k1))
  have HP1 := Lib.hid (HP0.out.other (Ne.symm hRG2) 1 (.int .i64 k1))
  have HO1 := Lib.hid (HO0.out.set 1 (.int .i64 k1))
  clear q1 f1 HS0 HA0 HP0 HO0
  generalize wa.setCell ⟨R, 1, none⟩ (.int .i64 k1) = wb at HS1 HA1 HP1 HO1 ⊢
  have q0 := HS1.out.c0
  have q1 := HS1.out.c1
  by_cases hlt : k1 < s.size
  · have hlt' : (k1 : Int) < (s.size : Int) := by omega
    by_cases h94 : s[k1].toNat = 94
    · have t94 : ((s[k1].toNat : Int) == 94) = true := beq_iff_eq.2 (by omega)
      have HB : Hid (bracketsF s i = finishF true (memsF s (s.size + 1) (k1 + 1) false noP)) := by
        show _ = _
        unfold bracketsF
        rw [← HK1.out, if_pos ⟨hlt, by rw [bt_get s _ hlt]; exact h94⟩]
      clear h94
      go_wp2_with fail
      go_quiet ((go_at_call 120; first | exact more_quiet _ R s k1 false _ HS1.out (by unfold maxLen; omega) | exact more_quiet_add _ R s k1 false _ _ HS1.out (by unfold maxLen; omega)))
      have HS2 : Hid (ScIn (wb.drewN nq) R s k1 false) := HS1.out
      have HA2 : Hid (SetIn (wb.drewN nq) w.heap.size 138 noP) := HA1.out
      have HP2 : Hid (SetIn (wb.drewN nq) (w.heap.size + 1) 138 noP) := HP1.out
      have HO2 : Hid (Only R w (wb.drewN nq)) := HO1.out.drewN nq
      rw [show s[k1].toNat = bt s k1 from (bt_get s k1 hlt).symm]
      generalize bt s k1 = c94
      clear q0 q1 t94 HS1 HA1 HP1 HO1
      generalize wb.drewN nq = wc at HS2 HA2 HP2 HO2 ⊢
      have q1 := HS2.out.c1
      have f1 := HS2.out.free 1
      obtain ⟨k2, HK2⟩ : ∃ k2, Hid (k2 = k1 + 1) := ⟨_, rfl⟩
      have hk2a : k1 < k2 := by have := HK2.out; omega
      have hk2b : k2 < k1 + 2 := by have := HK2.out; omega
      have hk2c : k2 ≤ s.size := by omega
      rw [← HK2.out] at HB
      go_upto_region 6 with fail
      rw [show (k1 : Int) + 1 = (k2 : Int) by omega]
      have HS3 := Lib.hid (HS2.out.set1 k2)
      have HA3 := Lib.hid (HA2.out.other (Ne.symm hRG1) 1 (.int .i64 k2))
      have HP3 := Lib.hid (HP2.out.other (Ne.symm hRG2) 1 (.int .i64 k2))
      have HO3 := Lib.hid (HO2.out.set 1 (.int .i64 k2))
      clear q1 f1 HS2 HA2 HP2 HO2 HK1 HK2 hlt hlt'
      generalize wc.setCell ⟨R, 1, none⟩ (.int .i64 k2) = wd at HS3 HA3 HP3 HO3 ⊢
      obtain ⟨V, HV⟩ : ∃ V, Hid (V = memsF s (s.size + 1) k2 false noP) := ⟨_, rfl⟩
      have HF0 : Hid (fin = finishF true V) := by show _ = _; rw [← HFI.out, HV.out]; exact HB.out
      clear HB
      have HV0 : Hid (memsF s (s.size + 1) k2 (decide (0 < 0)) noP = V) := HV.out.symm
      clear HV
      go_wp2_with fail
      go_loopw [5] (fun kv wr => ∃ cnt k bad, kv = .int .i64 (cnt : Nat) ∧ Hid (ScIn wr R s k bad) ∧ Hid (SetIn wr w.heap.size 138 noP) ∧ Hid (Only R w wr) ∧ (bad = false → cnt ≤ k ∧ k ≤ s.size ∧ ∃ f p, Hid (s.size - k < f ∧ memsF s f k (decide (0 < cnt)) p = V) ∧ Hid (SetIn wr (w.heap.size + 1) 138 p)) ∧ (bad = true → cnt ≤ s.size + 1 ∧ Hid (V = (noP, k, true)))) (fun kv _ => s.size + 2 - (intOf kv).toNat)
      case atStart => exact ⟨0, k2, false, rfl, HS3.out, HA3.out, HO3.out, fun _ => ⟨by omega, by omega, s.size + 1, noP, ⟨by omega, HV0.out⟩, HP3.out⟩, fun h => absurd h Bool.false_ne_true⟩
      case round =>
        clear HS3 HA3 HP3 HO3 HV0
        obtain ⟨cnt, k, bad, rfl, HS, HA, HO, hgo, hbad⟩ := hrel
        cases bad with
        | true =>
          obtain ⟨hc, HX⟩ := hbad rfl
          have HF : Hid (fin = badR k) := by show _ = _; rw [HF0.out, HX.out]; rfl
          clear hbad hgo HX HF0
          have q2 := HS.out.c2
          go_wp2_with (refine wpList_store_row rfl 138 (.tmp 2) (.tmp 78) rfl (w.heap.size) zeroA rfl rfl 138 (setC noP).toArray HA.out (by rw [set_size]; rfl) (by rw [setC_size]; rfl) zero_one ?_; rw [zero_eq])
          exact bodyPost_ret (v := .agg (setC noP).toArray) (res_set Tryd.results129 _ _ w.heap.size 138 noP rfl (HA.out.row noP)) rfl ⟨by (rw [HF.out] <;> rfl), by rw [HF.out]; exact HS.out.keep (setRow_other _ _ _ _ hRG1), HO.out.rowNew (Nat.le_refl _) _⟩
        | false =>
          obtain ⟨hc, hk, f, p, HX, HP⟩ := hgo rfl
          clear hbad hgo
          have q2 := HS.out.c2
          obtain ⟨f', HF'⟩ : ∃ f', Hid (f = f' + 1) := ⟨f - 1, by have := HX.out.1; show _ = _; omega⟩
          by_cases hlt : k < s.size
          · have hlt' : (k : Int) < (s.size : Int) := by omega
            have HX1 : Hid (s.size - k < f' + 1 ∧ (if bt s k = 93 ∧ decide (0 < cnt) = true then (p, k + 1, false) else if (memberF s k p).2.2 = true then (noP, (memberF s k p).2.1, true) else memsF s f' (memberF s k p).2.1 true (memberF s k p).1) = V) := by
              have h := HX.out
              rw [HF'.out] at h
              unfold memsF at h
              rw [if_pos hlt] at h
              exact h
            clear HX HF'
            go_upto_region 11 with (go_at_call 120; refine (more_any _ R s k false (by exact HS.out) (by unfold maxLen; omega)).mono ?_; rintro e w' ⟨rfl, nm, rfl⟩)
            have HS1 : Hid (ScIn (wr.drewN nm) R s k false) := HS.out
            have HA1 : Hid (SetIn (wr.drewN nm) w.heap.size 138 noP) := HA.out
            have HP1 : Hid (SetIn (wr.drewN nm) (w.heap.size + 1) 138 p) := HP.out
            have HO1 : Hid (Only R w (wr.drewN nm)) := HO.out.drewN nm
            clear q2 HS HA HP HO
            generalize wr.drewN nm = w1 at HS1 HA1 HP1 HO1 ⊢
            have q0 := HS1.out.c0
            have q1 := HS1.out.c1
            by_cases h93 : s[k].toNat = 93
            · have t93 : ((s[k].toNat : Int) == 93) = true := beq_iff_eq.2 (by omega)
              have h93' : bt s k = 93 := by rw [bt_get s k hlt]; exact h93
              by_cases hc0 : 0 < cnt
              · have hc0' : (0 : Int) < (cnt : Int) := by omega
                have HVE : Hid (V = (p, k + 1, false)) := by show _ = _; rw [← HX1.out.2, if_pos ⟨h93', decide_eq_true hc0⟩]
                have HF : Hid (fin = ⟨if true = true then notP p else p, 0, false, k + 1, false⟩) := by show _ = _; rw [HF0.out, HVE.out]; rfl
                clear HVE HX1 h93 h93' HF0
                go_wp2_with fail
                go_quiet (fail)
                have HS2 : Hid (ScIn (w1.drewN nq) R s k false) := HS1.out
                have HA2 : Hid (SetIn (w1.drewN nq) w.heap.size 138 noP) := HA1.out
                have HP2 : Hid (SetIn (w1.drewN nq) (w.heap.size + 1) 138 p) := HP1.out
                have HO2 : Hid (Only R w (w1.drewN nq)) := HO1.out.drewN nq
                rw [show s[k].toNat = bt s k from (bt_get s k hlt).symm]
                generalize bt s k = c93
                clear q0 q1 t93 HS1 HA1 HP1 HO1
                generalize w1.drewN nq = w2 at HS2 HA2 HP2 HO2 ⊢
                have q1 := HS2.out.c1
                have f1 := HS2.out.free 1
                go_upto_region 13 with fail
                obtain ⟨k1, HK1⟩ : ∃ k1, Hid (k1 = k + 1) := ⟨_, rfl⟩
                rw [← HK1.out] at HF
                rw [show (k : Int) + 1 = (k1 : Int) by have := HK1.out; omega]
                have HS3 := Lib.hid (HS2.out.set1 k1)
                have HA3 := Lib.hid (HA2.out.other (Ne.symm hRG1) 1 (.int .i64 k1))
                have HP3 := Lib.hid (HP2.out.other (Ne.symm hRG2) 1 (.int .i64 k1))
                have HO3 := Lib.hid (HO2.out.set 1 (.int .i64 k1))
                clear q1 f1 HS2 HA2 HP2 HO2 HK1
                generalize w2.setCell ⟨R, 1, none⟩ (.int .i64 k1) = w3 at HS3 HA3 HP3 HO3 ⊢
                go_wp2_with (first
                  | (refine wpList_load_row rfl 138 (.tmp 3) rfl ((w.heap.size + 1)) rfl 138 (setC p).toArray (0, 0) _ HP3.out Tryd.underlying138 rfl (by rw [set_size, setC_size]) ?_)
                  | (go_at_call 127; refine (inverted_any p _).mono ?_; rintro e w4 ⟨rfl, hb4⟩)
                  | (refine wpList_store_row rfl 138 (.tmp 2) (.tmp 74) rfl (w.heap.size) (setC (notP p)).toArray rfl rfl 138 (setC noP).toArray (HA3.out.below hb4) (by rw [set_size, setC_size]) (by simp only [setC_size]) (setC_one _) ?_))
                exact bodyPost_ret (v := .agg (setC (notP p)).toArray) (res_set Tryd.results129 _ _ w.heap.size 138 (notP p) rfl ((HA3.out.below hb4).row (notP p))) rfl ⟨by (rw [HF.out] <;> rfl), by rw [HF.out]; exact (HS3.out.below hb4).keep (setRow_other _ _ _ _ hRG1), (HO3.out.bel hb4).rowNew (Nat.le_refl _) _⟩
              · have hc0' : ¬ (0 : Int) < (cnt : Int) := by omega
                have HX2 : Hid (s.size - k < f' + 1 ∧ (if (memberF s k p).2.2 = true then (noP, (memberF s k p).2.1, true) else memsF s f' (memberF s k p).2.1 true (memberF s k p).1) = V) := by
                  have h := HX1.out
                  rw [if_neg (fun e => hc0 (of_decide_eq_true e.2))] at h
                  exact h
                clear HX1 h93 h93'
                go_wp2_with fail
                go_quiet (fail)
                have HS2 : Hid (ScIn (w1.drewN nq) R s k false) := HS1.out
                have HA2 : Hid (SetIn (w1.drewN nq) w.heap.size 138 noP) := HA1.out
                have HP2 : Hid (SetIn (w1.drewN nq) (w.heap.size + 1) 138 p) := HP1.out
                have HO2 : Hid (Only R w (w1.drewN nq)) := HO1.out.drewN nq
                rw [show s[k].toNat = bt s k from (bt_get s k hlt).symm]
                generalize bt s k = c93
                clear q0 q1 t93 HS1 HA1 HP1 HO1
                generalize w1.drewN nq = w2 at HS2 HA2 HP2 HO2 ⊢
                have HM := Lib.hid (memberF_ok s k p hlt)
                have HE := Lib.hid (member_any w2 R (w.heap.size + 1) s k 138 p HS2.out HP2.out hRG2 hlt hs)
                obtain ⟨⟨pm, jm, bm⟩, HD⟩ : ∃ m, Hid (m = memberF s k p) := ⟨_, rfl⟩
                rw [← HD.out] at HX2 HM HE
                clear HD
                go_wp2_with (go_at_call 137; refine HE.out.mono ?_; rintro e w3 ⟨rfl, hp3, hs3, ht3⟩)
                have hA3 := HA2.out.two ht3 (Ne.symm hRG1) (by omega)
                have hO3 := HO2.out.two ht3 (by omega)
                refine ⟨⟨cnt + 1, jm, bm, by go_num, hs3, hA3, hO3, ?_, ?_⟩, by simp [intOf]; try omega⟩
                · intro hb
                  have hM : k < jm ∧ jm ≤ s.size := HM.out hb
                  have hX := HX2.out
                  have hb2 : bm = false := hb
                  subst hb2
                  rw [if_neg (fun e => Bool.false_ne_true e)] at hX
                  exact ⟨by omega, hM.2, f', pm, ⟨by omega, by rw [decide_eq_true (Nat.succ_pos cnt)]; exact hX.2⟩, hp3⟩
                · intro hb
                  have hX := HX2.out
                  have hb2 : bm = true := hb
                  subst hb2
                  rw [if_pos rfl] at hX
                  exact ⟨by omega, hX.2.symm⟩
            · have t93 : ((s[k].toNat : Int) == 93) = false := beq_eq_false_iff_ne.2 (by omega)
              have HX2 : Hid (s.size - k < f' + 1 ∧ (if (memberF s k p).2.2 = true then (noP, (memberF s k p).2.1, true) else memsF s f' (memberF s k p).2.1 true (memberF s k p).1) = V) := by
                have h := HX1.out
                rw [if_neg (fun e => h93 (by rw [← bt_get s k hlt]; exact e.1))] at h
                exact h
              clear HX1 h93
              go_wp2_with fail
              go_quiet (fail)
              have HS2 : Hid (ScIn (w1.drewN nq) R s k false) := HS1.out
              have HA2 : Hid (SetIn (w1.drewN nq) w.heap.size 138 noP) := HA1.out
              have HP2 : Hid (SetIn (w1.drewN nq) (w.heap.size + 1) 138 p) := HP1.out
              have HO2 : Hid (Only R w (w1.drewN nq)) := HO1.out.drewN nq
              rw [show s[k].toNat = bt s k from (bt_get s k hlt).symm]
              generalize bt s k = c93
              clear q0 q1 t93 HS1 HA1 HP1 HO1
              generalize w1.drewN nq = w2 at HS2 HA2 HP2 HO2 ⊢
              have HM := Lib.hid (memberF_ok s k p hlt)
              have HE := Lib.hid (member_any w2 R (w.heap.size + 1) s k 138 p HS2.out HP2.out hRG2 hlt hs)
              obtain ⟨⟨pm, jm, bm⟩, HD⟩ : ∃ m, Hid (m = memberF s k p) := ⟨_, rfl⟩
              rw [← HD.out] at HX2 HM HE
              clear HD
              go_wp2_with (go_at_call 137; refine HE.out.mono ?_; rintro e w3 ⟨rfl, hp3, hs3, ht3⟩)
              have hA3 := HA2.out.two ht3 (Ne.symm hRG1) (by omega)
              have hO3 := HO2.out.two ht3 (by omega)
              refine ⟨⟨cnt + 1, jm, bm, by go_num, hs3, hA3, hO3, ?_, ?_⟩, by simp [intOf]; try omega⟩
              · intro hb
                have hM : k < jm ∧ jm ≤ s.size := HM.out hb
                have hX := HX2.out
                have hb2 : bm = false := hb
                subst hb2
                rw [if_neg (fun e => Bool.false_ne_true e)] at hX
                exact ⟨by omega, hM.2, f', pm, ⟨by omega, by rw [decide_eq_true (Nat.succ_pos cnt)]; exact hX.2⟩, hp3⟩
              · intro hb
                have hX := HX2.out
                have hb2 : bm = true := hb
                subst hb2
                rw [if_pos rfl] at hX
                exact ⟨by omega, hX.2.symm⟩
          · have HVE : Hid (V = (noP, k, true)) := by
              have h := HX.out.2
              rw [HF'.out] at h
              unfold memsF at h
              rw [if_neg hlt] at h
              exact h.symm
            have HF : Hid (fin = badR k) := by show _ = _; rw [HF0.out, HVE.out]; rfl
            clear HVE HX HF' HF0
            go_upto_region 10 with (go_at_call 120; refine (more_any _ R s k false (by exact HS.out) (by unfold maxLen; omega)).mono ?_; rintro e w' ⟨rfl, nm, rfl⟩)
            have HS1 : Hid (ScIn (wr.drewN nm) R s k false) := HS.out
            have HA1 : Hid (SetIn (wr.drewN nm) w.heap.size 138 noP) := HA.out
            have HO1 : Hid (Only R w (wr.drewN nm)) := HO.out.drewN nm
            clear q2 HS HA HP HO
            generalize wr.drewN nm = w1 at HS1 HA1 HO1 ⊢
            have q1 := HS1.out.c1
            go_upto_region 17 with (go_at_call 132; refine (fail_any _ R s k false k (by exact HS1.out)).mono ?_; rintro e wf ⟨rfl, hsf, hof⟩)
            have HZf := Lib.hid (HA1.out.only hof (Ne.symm hRG1))
            have HOf := Lib.hid (HO1.out.trans hof)
            have HSf := Lib.hid hsf
            clear hsf hof q1 HS1 HA1 HO1
            go_wp2_with (refine wpList_store_row rfl 138 (.tmp 2) (.tmp 78) rfl (w.heap.size) zeroA rfl rfl 138 (setC noP).toArray HZf.out (by rw [set_size]; rfl) (by rw [setC_size]; rfl) zero_one ?_; rw [zero_eq])
            exact bodyPost_ret (v := .agg (setC noP).toArray) (res_set Tryd.results129 _ _ w.heap.size 138 noP rfl (HZf.out.row noP)) rfl ⟨by (rw [HF.out] <;> rfl), by rw [HF.out]; exact HSf.out.keep (setRow_other _ _ _ _ hRG1), HOf.out.rowNew (Nat.le_refl _) _⟩
    · have t94 : ((s[k1].toNat : Int) == 94) = false := beq_eq_false_iff_ne.2 (by omega)
      have HB : Hid (bracketsF s i = finishF false (memsF s (s.size + 1) k1 false noP)) := by
        show _ = _
        unfold bracketsF
        rw [← HK1.out, if_neg (fun e => h94 (by rw [← bt_get s _ hlt]; exact e.2))]
      clear h94
      go_wp2_with fail
      go_quiet ((go_at_call 120; first | exact more_quiet _ R s k1 false _ HS1.out (by unfold maxLen; omega) | exact more_quiet_add _ R s k1 false _ _ HS1.out (by unfold maxLen; omega)))
      have HS2 : Hid (ScIn (wb.drewN nq) R s k1 false) := HS1.out
      have HA2 : Hid (SetIn (wb.drewN nq) w.heap.size 138 noP) := HA1.out
      have HP2 : Hid (SetIn (wb.drewN nq) (w.heap.size + 1) 138 noP) := HP1.out
      have HO2 : Hid (Only R w (wb.drewN nq)) := HO1.out.drewN nq
      rw [show s[k1].toNat = bt s k1 from (bt_get s k1 hlt).symm]
      generalize bt s k1 = c94
      clear q0 q1 t94 HS1 HA1 HP1 HO1 HK1 hlt hlt'
      generalize wb.drewN nq = wc at HS2 HA2 HP2 HO2 ⊢
      obtain ⟨V, HV⟩ : ∃ V, Hid (V = memsF s (s.size + 1) k1 false noP) := ⟨_, rfl⟩
      have HF0 : Hid (fin = finishF false V) := by show _ = _; rw [← HFI.out, HV.out]; exact HB.out
      clear HB
      have HV0 : Hid (memsF s (s.size + 1) k1 (decide (0 < 0)) noP = V) := HV.out.symm
      clear HV
      go_wp2_with fail
      go_loopw [5] (fun kv wr => ∃ cnt k bad, kv = .int .i64 (cnt : Nat) ∧ Hid (ScIn wr R s k bad) ∧ Hid (SetIn wr w.heap.size 138 noP) ∧ Hid (Only R w wr) ∧ (bad = false → cnt ≤ k ∧ k ≤ s.size ∧ ∃ f p, Hid (s.size - k < f ∧ memsF s f k (decide (0 < cnt)) p = V) ∧ Hid (SetIn wr (w.heap.size + 1) 138 p)) ∧ (bad = true → cnt ≤ s.size + 1 ∧ Hid (V = (noP, k, true)))) (fun kv _ => s.size + 2 - (intOf kv).toNat)
      case atStart => exact ⟨0, k1, false, rfl, HS2.out, HA2.out, HO2.out, fun _ => ⟨by omega, by omega, s.size + 1, noP, ⟨by omega, HV0.out⟩, HP2.out⟩, fun h => absurd h Bool.false_ne_true⟩
      case round =>
        clear HS2 HA2 HP2 HO2 HV0
        obtain ⟨cnt, k, bad, rfl, HS, HA, HO, hgo, hbad⟩ := hrel
        cases bad with
        | true =>
          obtain ⟨hc, HX⟩ := hbad rfl
          have HF : Hid (fin = badR k) := by show _ = _; rw [HF0.out, HX.out]; rfl
          clear hbad hgo HX HF0
          have q2 := HS.out.c2
          go_wp2_with (refine wpList_store_row rfl 138 (.tmp 2) (.tmp 78) rfl (w.heap.size) zeroA rfl rfl 138 (setC noP).toArray HA.out (by rw [set_size]; rfl) (by rw [setC_size]; rfl) zero_one ?_; rw [zero_eq])
          exact bodyPost_ret (v := .agg (setC noP).toArray) (res_set Tryd.results129 _ _ w.heap.size 138 noP rfl (HA.out.row noP)) rfl ⟨by (rw [HF.out] <;> rfl), by rw [HF.out]; exact HS.out.keep (setRow_other _ _ _ _ hRG1), HO.out.rowNew (Nat.le_refl _) _⟩
        | false =>
          obtain ⟨hc, hk, f, p, HX, HP⟩ := hgo rfl
          clear hbad hgo
          have q2 := HS.out.c2
          obtain ⟨f', HF'⟩ : ∃ f', Hid (f = f' + 1) := ⟨f - 1, by have := HX.out.1; show _ = _; omega⟩
          by_cases hlt : k < s.size
          · have hlt' : (k : Int) < (s.size : Int) := by omega
            have HX1 : Hid (s.size - k < f' + 1 ∧ (if bt s k = 93 ∧ decide (0 < cnt) = true then (p, k + 1, false) else if (memberF s k p).2.2 = true then (noP, (memberF s k p).2.1, true) else memsF s f' (memberF s k p).2.1 true (memberF s k p).1) = V) := by
              have h := HX.out
              rw [HF'.out] at h
              unfold memsF at h
              rw [if_pos hlt] at h
              exact h
            clear HX HF'
            go_upto_region 11 with (go_at_call 120; refine (more_any _ R s k false (by exact HS.out) (by unfold maxLen; omega)).mono ?_; rintro e w' ⟨rfl, nm, rfl⟩)
            have HS1 : Hid (ScIn (wr.drewN nm) R s k false) := HS.out
            have HA1 : Hid (SetIn (wr.drewN nm) w.heap.size 138 noP) := HA.out
            have HP1 : Hid (SetIn (wr.drewN nm) (w.heap.size + 1) 138 p) := HP.out
            have HO1 : Hid (Only R w (wr.drewN nm)) := HO.out.drewN nm
            clear q2 HS HA HP HO
            generalize wr.drewN nm = w1 at HS1 HA1 HP1 HO1 ⊢
            have q0 := HS1.out.c0
            have q1 := HS1.out.c1
            by_cases h93 : s[k].toNat = 93
            · have t93 : ((s[k].toNat : Int) == 93) = true := beq_iff_eq.2 (by omega)
              have h93' : bt s k = 93 := by rw [bt_get s k hlt]; exact h93
              by_cases hc0 : 0 < cnt
              · have hc0' : (0 : Int) < (cnt : Int) := by omega
                have HVE : Hid (V = (p, k + 1, false)) := by show _ = _; rw [← HX1.out.2, if_pos ⟨h93', decide_eq_true hc0⟩]
                have HF : Hid (fin = ⟨if false = true then notP p else p, 0, false, k + 1, false⟩) := by show _ = _; rw [HF0.out, HVE.out]; rfl
                clear HVE HX1 h93 h93' HF0
                go_wp2_with fail
                go_quiet (fail)
                have HS2 : Hid (ScIn (w1.drewN nq) R s k false) := HS1.out
                have HA2 : Hid (SetIn (w1.drewN nq) w.heap.size 138 noP) := HA1.out
                have HP2 : Hid (SetIn (w1.drewN nq) (w.heap.size + 1) 138 p) := HP1.out
                have HO2 : Hid (Only R w (w1.drewN nq)) := HO1.out.drewN nq
                rw [show s[k].toNat = bt s k from (bt_get s k hlt).symm]
                generalize bt s k = c93
                clear q0 q1 t93 HS1 HA1 HP1 HO1
                generalize w1.drewN nq = w2 at HS2 HA2 HP2 HO2 ⊢
                have q1 := HS2.out.c1
                have f1 := HS2.out.free 1
                go_upto_region 13 with fail
                obtain ⟨k1, HK1⟩ : ∃ k1, Hid (k1 = k + 1) := ⟨_, rfl⟩
                rw [← HK1.out] at HF
                rw [show (k : Int) + 1 = (k1 : Int) by have := HK1.out; omega]
                have HS3 := Lib.hid (HS2.out.set1 k1)
                have HA3 := Lib.hid (HA2.out.other (Ne.symm hRG1) 1 (.int .i64 k1))
                have HP3 := Lib.hid (HP2.out.other (Ne.symm hRG2) 1 (.int .i64 k1))
                have HO3 := Lib.hid (HO2.out.set 1 (.int .i64 k1))
                clear q1 f1 HS2 HA2 HP2 HO2 HK1
                generalize w2.setCell ⟨R, 1, none⟩ (.int .i64 k1) = w3 at HS3 HA3 HP3 HO3 ⊢
                go_wp2_with (first
                  | (refine wpList_load_row rfl 138 (.tmp 3) rfl ((w.heap.size + 1)) rfl 138 (setC p).toArray (0, 0) _ HP3.out Tryd.underlying138 rfl (by rw [set_size, setC_size]) ?_)
                  | (refine wpList_store_row rfl 138 (.tmp 2) (.tmp 75) rfl (w.heap.size) (setC p).toArray rfl rfl 138 (setC noP).toArray HA3.out (by rw [set_size, setC_size]) (by simp only [setC_size]) (setC_one _) ?_))
                exact bodyPost_ret (v := .agg (setC p).toArray) (res_set Tryd.results129 _ _ w.heap.size 138 p rfl (HA3.out.row p)) rfl ⟨by (rw [HF.out] <;> rfl), by rw [HF.out]; exact HS3.out.keep (setRow_other _ _ _ _ hRG1), HO3.out.rowNew (Nat.le_refl _) _⟩
              · have hc0' : ¬ (0 : Int) < (cnt : Int) := by omega
                have HX2 : Hid (s.size - k < f' + 1 ∧ (if (memberF s k p).2.2 = true then (noP, (memberF s k p).2.1, true) else memsF s f' (memberF s k p).2.1 true (memberF s k p).1) = V) := by
                  have h := HX1.out
                  rw [if_neg (fun e => hc0 (of_decide_eq_true e.2))] at h
                  exact h
                clear HX1 h93 h93'
                go_wp2_with fail
                go_quiet (fail)
                have HS2 : Hid (ScIn (w1.drewN nq) R s k false) := HS1.out
                have HA2 : Hid (SetIn (w1.drewN nq) w.heap.size 138 noP) := HA1.out
                have HP2 : Hid (SetIn (w1.drewN nq) (w.heap.size + 1) 138 p) := HP1.out
                have HO2 : Hid (Only R w (w1.drewN nq)) := HO1.out.drewN nq
                rw [show s[k].toNat = bt s k from (bt_get s k hlt).symm]
                generalize bt s k = c93
                clear q0 q1 t93 HS1 HA1 HP1 HO1
                generalize w1.drewN nq = w2 at HS2 HA2 HP2 HO2 ⊢
                have HM := Lib.hid (memberF_ok s k p hlt)
                have HE := Lib.hid (member_any w2 R (w.heap.size + 1) s k 138 p HS2.out HP2.out hRG2 hlt hs)
                obtain ⟨⟨pm, jm, bm⟩, HD⟩ : ∃ m, Hid (m = memberF s k p) := ⟨_, rfl⟩
                rw [← HD.out] at HX2 HM HE
                clear HD
                go_wp2_with (go_at_call 137; refine HE.out.mono ?_; rintro e w3 ⟨rfl, hp3, hs3, ht3⟩)
                have hA3 := HA2.out.two ht3 (Ne.symm hRG1) (by omega)
                have hO3 := HO2.out.two ht3 (by omega)
                refine ⟨⟨cnt + 1, jm, bm, by go_num, hs3, hA3, hO3, ?_, ?_⟩, by simp [intOf]; try omega⟩
                · intro hb
                  have hM : k < jm ∧ jm ≤ s.size := HM.out hb
                  have hX := HX2.out
                  have hb2 : bm = false := hb
                  subst hb2
                  rw [if_neg (fun e => Bool.false_ne_true e)] at hX
                  exact ⟨by omega, hM.2, f', pm, ⟨by omega, by rw [decide_eq_true (Nat.succ_pos cnt)]; exact hX.2⟩, hp3⟩
                · intro hb
                  have hX := HX2.out
                  have hb2 : bm = true := hb
                  subst hb2
                  rw [if_pos rfl] at hX
                  exact ⟨by omega, hX.2.symm⟩
            · have t93 : ((s[k].toNat : Int) == 93) = false := beq_eq_false_iff_ne.2 (by omega)
              have HX2 : Hid (s.size - k < f' + 1 ∧ (if (memberF s k p).2.2 = true then (noP, (memberF s k p).2.1, true) else memsF s f' (memberF s k p).2.1 true (memberF s k p).1) = V) := by
                have h := HX1.out
                rw [if_neg (fun e => h93 (by rw [← bt_get s k hlt]; exact e.1))] at h
                exact h
              clear HX1 h93
              go_wp2_with fail
              go_quiet (fail)
              have HS2 : Hid (ScIn (w1.drewN nq) R s k false) := HS1.out
              have HA2 : Hid (SetIn (w1.drewN nq) w.heap.size 138 noP) := HA1.out
              have HP2 : Hid (SetIn (w1.drewN nq) (w.heap.size + 1) 138 p) := HP1.out
              have HO2 : Hid (Only R w (w1.drewN nq)) := HO1.out.drewN nq
              rw [show s[k].toNat = bt s k from (bt_get s k hlt).symm]
              generalize bt s k = c93
              clear q0 q1 t93 HS1 HA1 HP1 HO1
              generalize w1.drewN nq = w2 at HS2 HA2 HP2 HO2 ⊢
              have HM := Lib.hid (memberF_ok s k p hlt)
              have HE := Lib.hid (member_any w2 R (w.heap.size + 1) s k 138 p HS2.out HP2.out hRG2 hlt hs)
              obtain ⟨⟨pm, jm, bm⟩, HD⟩ : ∃ m, Hid (m = memberF s k p) := ⟨_, rfl⟩
              rw [← HD.out] at HX2 HM HE
              clear HD
              go_wp2_with (go_at_call 137; refine HE.out.mono ?_; rintro e w3 ⟨rfl, hp3, hs3, ht3⟩)
              have hA3 := HA2.out.two ht3 (Ne.symm hRG1) (by omega)
              have hO3 := HO2.out.two ht3 (by omega)
              refine ⟨⟨cnt + 1, jm, bm, by go_num, hs3, hA3, hO3, ?_, ?_⟩, by simp [intOf]; try omega⟩
              · intro hb
                have hM : k < jm ∧ jm ≤ s.size := HM.out hb
                have hX := HX2.out
                have hb2 : bm = false := hb
                subst hb2
                rw [if_neg (fun e => Bool.false_ne_true e)] at hX
                exact ⟨by omega, hM.2, f', pm, ⟨by omega, by rw [decide_eq_true (Nat.succ_pos cnt)]; exact hX.2⟩, hp3⟩
              · intro hb
                have hX := HX2.out
                have hb2 : bm = true := hb
                subst hb2
                rw [if_pos rfl] at hX
                exact ⟨by omega, hX.2.symm⟩
          · have HVE : Hid (V = (noP, k, true)) := by
              have h := HX.out.2
              rw [HF'.out] at h
              unfold memsF at h
              rw [if_neg hlt] at h
              exact h.symm
            have HF : Hid (fin = badR k) := by show _ = _; rw [HF0.out, HVE.out]; rfl
            clear HVE HX HF' HF0
            go_upto_region 10 with (go_at_call 120; refine (more_any _ R s k false (by exact HS.out) (by unfold maxLen; omega)).mono ?_; rintro e w' ⟨rfl, nm, rfl⟩)
            have HS1 : Hid (ScIn (wr.drewN nm) R s k false) := HS.out
            have HA1 : Hid (SetIn (wr.drewN nm) w.heap.size 138 noP) := HA.out
            have HO1 : Hid (Only R w (wr.drewN nm)) := HO.out.drewN nm
            clear q2 HS HA HP HO
            generalize wr.drewN nm = w1 at HS1 HA1 HO1 ⊢
            have q1 := HS1.out.c1
            go_upto_region 17 with (go_at_call 132; refine (fail_any _ R s k false k (by exact HS1.out)).mono ?_; rintro e wf ⟨rfl, hsf, hof⟩)
            have HZf := Lib.hid (HA1.out.only hof (Ne.symm hRG1))
            have HOf := Lib.hid (HO1.out.trans hof)
            have HSf := Lib.hid hsf
            clear hsf hof q1 HS1 HA1 HO1
            go_wp2_with (refine wpList_store_row rfl 138 (.tmp 2) (.tmp 78) rfl (w.heap.size) zeroA rfl rfl 138 (setC noP).toArray HZf.out (by rw [set_size]; rfl) (by rw [setC_size]; rfl) zero_one ?_; rw [zero_eq])
            exact bodyPost_ret (v := .agg (setC noP).toArray) (res_set Tryd.results129 _ _ w.heap.size 138 noP rfl (HZf.out.row noP)) rfl ⟨by (rw [HF.out] <;> rfl), by rw [HF.out]; exact HSf.out.keep (setRow_other _ _ _ _ hRG1), HOf.out.rowNew (Nat.le_refl _) _⟩
  · have HB : Hid (bracketsF s i = finishF false (memsF s (s.size + 1) k1 false noP)) := by
      show _ = _
      unfold bracketsF
      rw [← HK1.out, if_neg (fun e => hlt e.1)]
    have HD := Lib.hid (decide_eq_false hlt)
    clear hlt q0
    go_wp2_with fail
    go_quiet ((go_at_call 120; first | exact more_quietb _ R s k1 false _ HS1.out (by unfold maxLen; omega) HD.out | exact more_quietb_add _ R s k1 false _ _ HS1.out (by unfold maxLen; omega) HD.out))
    have HS2 : Hid (ScIn (wb.drewN nq) R s k1 false) := HS1.out
    have HA2 : Hid (SetIn (wb.drewN nq) w.heap.size 138 noP) := HA1.out
    have HP2 : Hid (SetIn (wb.drewN nq) (w.heap.size + 1) 138 noP) := HP1.out
    have HO2 : Hid (Only R w (wb.drewN nq)) := HO1.out.drewN nq
    clear q1 HS1 HA1 HP1 HO1 HK1 HD
    generalize wb.drewN nq = wc at HS2 HA2 HP2 HO2 ⊢
    obtain ⟨V, HV⟩ : ∃ V, Hid (V = memsF s (s.size + 1) k1 false noP) := ⟨_, rfl⟩
    have HF0 : Hid (fin = finishF false V) := by show _ = _; rw [← HFI.out, HV.out]; exact HB.out
    clear HB
    have HV0 : Hid (memsF s (s.size + 1) k1 (decide (0 < 0)) noP = V) := HV.out.symm
    clear HV
    go_wp2_with fail
    go_loopw [5] (fun kv wr => ∃ cnt k bad, kv = .int .i64 (cnt : Nat) ∧ Hid (ScIn wr R s k bad) ∧ Hid (SetIn wr w.heap.size 138 noP) ∧ Hid (Only R w wr) ∧ (bad = false → cnt ≤ k ∧ k ≤ s.size ∧ ∃ f p, Hid (s.size - k < f ∧ memsF s f k (decide (0 < cnt)) p = V) ∧ Hid (SetIn wr (w.heap.size + 1) 138 p)) ∧ (bad = true → cnt ≤ s.size + 1 ∧ Hid (V = (noP, k, true)))) (fun kv _ => s.size + 2 - (intOf kv).toNat)
    case atStart => exact ⟨0, k1, false, rfl, HS2.out, HA2.out, HO2.out, fun _ => ⟨by omega, by omega, s.size + 1, noP, ⟨by omega, HV0.out⟩, HP2.out⟩, fun h => absurd h Bool.false_ne_true⟩
    case round =>
      clear HS2 HA2 HP2 HO2 HV0
      obtain ⟨cnt, k, bad, rfl, HS, HA, HO, hgo, hbad⟩ := hrel
      cases bad with
      | true =>
        obtain ⟨hc, HX⟩ := hbad rfl
        have HF : Hid (fin = badR k) := by show _ = _; rw [HF0.out, HX.out]; rfl
        clear hbad hgo HX HF0
        have q2 := HS.out.c2
        go_wp2_with (refine wpList_store_row rfl 138 (.tmp 2) (.tmp 78) rfl (w.heap.size) zeroA rfl rfl 138 (setC noP).toArray HA.out (by rw [set_size]; rfl) (by rw [setC_size]; rfl) zero_one ?_; rw [zero_eq])
        exact bodyPost_ret (v := .agg (setC noP).toArray) (res_set Tryd.results129 _ _ w.heap.size 138 noP rfl (HA.out.row noP)) rfl ⟨by (rw [HF.out] <;> rfl), by rw [HF.out]; exact HS.out.keep (setRow_other _ _ _ _ hRG1), HO.out.rowNew (Nat.le_refl _) _⟩
      | false =>
        obtain ⟨hc, hk, f, p, HX, HP⟩ := hgo rfl
        clear hbad hgo
        have q2 := HS.out.c2
        obtain ⟨f', HF'⟩ : ∃ f', Hid (f = f' + 1) := ⟨f - 1, by have := HX.out.1; show _ = _; omega⟩
        by_cases hlt : k < s.size
        · have hlt' : (k : Int) < (s.size : Int) := by omega
          have HX1 : Hid (s.size - k < f' + 1 ∧ (if bt s k = 93 ∧ decide (0 < cnt) = true then (p, k + 1, false) else if (memberF s k p).2.2 = true then (noP, (memberF s k p).2.1, true) else memsF s f' (memberF s k p).2.1 true (memberF s k p).1) = V) := by
            have h := HX.out
            rw [HF'.out] at h
            unfold memsF at h
            rw [if_pos hlt] at h
            exact h
          clear HX HF'
          go_upto_region 11 with (go_at_call 120; refine (more_any _ R s k false (by exact HS.out) (by unfold maxLen; omega)).mono ?_; rintro e w' ⟨rfl, nm, rfl⟩)
          have HS1 : Hid (ScIn (wr.drewN nm) R s k false) := HS.out
          have HA1 : Hid (SetIn (wr.drewN nm) w.heap.size 138 noP) := HA.out
          have HP1 : Hid (SetIn (wr.drewN nm) (w.heap.size + 1) 138 p) := HP.out
          have HO1 : Hid (Only R w (wr.drewN nm)) := HO.out.drewN nm
          clear q2 HS HA HP HO
          generalize wr.drewN nm = w1 at HS1 HA1 HP1 HO1 ⊢
          have q0 := HS1.out.c0
          have q1 := HS1.out.c1
          by_cases h93 : s[k].toNat = 93
          · have t93 : ((s[k].toNat : Int) == 93) = true := beq_iff_eq.2 (by omega)
            have h93' : bt s k = 93 := by rw [bt_get s k hlt]; exact h93
            by_cases hc0 : 0 < cnt
            · have hc0' : (0 : Int) < (cnt : Int) := by omega
              have HVE : Hid (V = (p, k + 1, false)) := by show _ = _; rw [← HX1.out.2, if_pos ⟨h93', decide_eq_true hc0⟩]
              have HF : Hid (fin = ⟨if false = true then notP p else p, 0, false, k + 1, false⟩) := by show _ = _; rw [HF0.out, HVE.out]; rfl
              clear HVE HX1 h93 h93' HF0
              go_wp2_with fail
              go_quiet (fail)
              have HS2 : Hid (ScIn (w1.drewN nq) R s k false) := HS1.out
              have HA2 : Hid (SetIn (w1.drewN nq) w.heap.size 138 noP) := HA1.out
              have HP2 : Hid (SetIn (w1.drewN nq) (w.heap.size + 1) 138 p) := HP1.out
              have HO2 : Hid (Only R w (w1.drewN nq)) := HO1.out.drewN nq
              rw [show s[k].toNat = bt s k from (bt_get s k hlt).symm]
              generalize bt s k = c93
              clear q0 q1 t93 HS1 HA1 HP1 HO1
              generalize w1.drewN nq = w2 at HS2 HA2 HP2 HO2 ⊢
              have q1 := HS2.out.c1
              have f1 := HS2.out.free 1
              go_upto_region 13 with fail
              obtain ⟨k1, HK1⟩ : ∃ k1, Hid (k1 = k + 1) := ⟨_, rfl⟩
              rw [← HK1.out] at HF
              rw [show (k : Int) + 1 = (k1 : Int) by have := HK1.out; omega]
              have HS3 := Lib.hid (HS2.out.set1 k1)
              have HA3 := Lib.hid (HA2.out.other (Ne.symm hRG1) 1 (.int .i64 k1))
              have HP3 := Lib.hid (HP2.out.other (Ne.symm hRG2) 1 (.int .i64 k1))
              have HO3 := Lib.hid (HO2.out.set 1 (.int .i64 k1))
              clear q1 f1 HS2 HA2 HP2 HO2 HK1
              generalize w2.setCell ⟨R, 1, none⟩ (.int .i64 k1) = w3 at HS3 HA3 HP3 HO3 ⊢
              go_wp2_with (first
                | (refine wpList_load_row rfl 138 (.tmp 3) rfl ((w.heap.size + 1)) rfl 138 (setC p).toArray (0, 0) _ HP3.out Tryd.underlying138 rfl (by rw [set_size, setC_size]) ?_)
                | (refine wpList_store_row rfl 138 (.tmp 2) (.tmp 75) rfl (w.heap.size) (setC p).toArray rfl rfl 138 (setC noP).toArray HA3.out (by rw [set_size, setC_size]) (by simp only [setC_size]) (setC_one _) ?_))
              exact bodyPost_ret (v := .agg (setC p).toArray) (res_set Tryd.results129 _ _ w.heap.size 138 p rfl (HA3.out.row p)) rfl ⟨by (rw [HF.out] <;> rfl), by rw [HF.out]; exact HS3.out.keep (setRow_other _ _ _ _ hRG1), HO3.out.rowNew (Nat.le_refl _) _⟩
            · have hc0' : ¬ (0 : Int) < (cnt : Int) := by omega
              have HX2 : Hid (s.size - k < f' + 1 ∧ (if (memberF s k p).2.2 = true then (noP, (memberF s k p).2.1, true) else memsF s f' (memberF s k p).2.1 true (memberF s k p).1) = V) := by
                have h := HX1.out
                rw [if_neg (fun e => hc0 (of_decide_eq_true e.2))] at h
                exact h
              clear HX1 h93 h93'
              go_wp2_with fail
              go_quiet (fail)
              have HS2 : Hid (ScIn (w1.drewN nq) R s k false) := HS1.out
              have HA2 : Hid (SetIn (w1.drewN nq) w.heap.size 138 noP) := HA1.out
              have HP2 : Hid (SetIn (w1.drewN nq) (w.heap.size + 1) 138 p) := HP1.out
              have HO2 : Hid (Only R w (w1.drewN nq)) := HO1.out.drewN nq
              rw [show s[k].toNat = bt s k from (bt_get s k hlt).symm]
              generalize bt s k = c93
              clear q0 q1 t93 HS1 HA1 HP1 HO1
              generalize w1.drewN nq = w2 at HS2 HA2 HP2 HO2 ⊢
              have HM := Lib.hid (memberF_ok s k p hlt)
              have HE := Lib.hid (member_any w2 R (w.heap.size + 1) s k 138 p HS2.out HP2.out hRG2 hlt hs)
              obtain ⟨⟨pm, jm, bm⟩, HD⟩ : ∃ m, Hid (m = memberF s k p) := ⟨_, rfl⟩
              rw [← HD.out] at HX2 HM HE
              clear HD
              go_wp2_with (go_at_call 137; refine HE.out.mono ?_; rintro e w3 ⟨rfl, hp3, hs3, ht3⟩)
              have hA3 := HA2.out.two ht3 (Ne.symm hRG1) (by omega)
              have hO3 := HO2.out.two ht3 (by omega)
              refine ⟨⟨cnt + 1, jm, bm, by go_num, hs3, hA3, hO3, ?_, ?_⟩, by simp [intOf]; try omega⟩
              · intro hb
                have hM : k < jm ∧ jm ≤ s.size := HM.out hb
                have hX := HX2.out
                have hb2 : bm = false := hb
                subst hb2
                rw [if_neg (fun e => Bool.false_ne_true e)] at hX
                exact ⟨by omega, hM.2, f', pm, ⟨by omega, by rw [decide_eq_true (Nat.succ_pos cnt)]; exact hX.2⟩, hp3⟩
              · intro hb
                have hX := HX2.out
                have hb2 : bm = true := hb
                subst hb2
                rw [if_pos rfl] at hX
                exact ⟨by omega, hX.2.symm⟩
          · have t93 : ((s[k].toNat : Int) == 93) = false := beq_eq_false_iff_ne.2 (by omega)
            have HX2 : Hid (s.size - k < f' + 1 ∧ (if (memberF s k p).2.2 = true then (noP, (memberF s k p).2.1, true) else memsF s f' (memberF s k p).2.1 true (memberF s k p).1) = V) := by
              have h := HX1.out
              rw [if_neg (fun e => h93 (by rw [← bt_get s k hlt]; exact e.1))] at h
              exact h
            clear HX1 h93
            go_wp2_with fail
            go_quiet (fail)
            have HS2 : Hid (ScIn (w1.drewN nq) R s k false) := HS1.out
            have HA2 : Hid (SetIn (w1.drewN nq) w.heap.size 138 noP) := HA1.out
            have HP2 : Hid (SetIn (w1.drewN nq) (w.heap.size + 1) 138 p) := HP1.out
            have HO2 : Hid (Only R w (w1.drewN nq)) := HO1.out.drewN nq
            rw [show s[k].toNat = bt s k from (bt_get s k hlt).symm]
            generalize bt s k = c93
            clear q0 q1 t93 HS1 HA1 HP1 HO1
            generalize w1.drewN nq = w2 at HS2 HA2 HP2 HO2 ⊢
            have HM := Lib.hid (memberF_ok s k p hlt)
            have HE := Lib.hid (member_any w2 R (w.heap.size + 1) s k 138 p HS2.out HP2.out hRG2 hlt hs)
            obtain ⟨⟨pm, jm, bm⟩, HD⟩ : ∃ m, Hid (m = memberF s k p) := ⟨_, rfl⟩
            rw [← HD.out] at HX2 HM HE
            clear HD
            go_wp2_with (go_at_call 137; refine HE.out.mono ?_; rintro e w3 ⟨rfl, hp3, hs3, ht3⟩)
            have hA3 := HA2.out.two ht3 (Ne.symm hRG1) (by omega)
            have hO3 := HO2.out.two ht3 (by omega)
            refine ⟨⟨cnt + 1, jm, bm, by go_num, hs3, hA3, hO3, ?_, ?_⟩, by simp [intOf]; try omega⟩
            · intro hb
              have hM : k < jm ∧ jm ≤ s.size := HM.out hb
              have hX := HX2.out
              have hb2 : bm = false := hb
              subst hb2
              rw [if_neg (fun e => Bool.false_ne_true e)] at hX
              exact ⟨by omega, hM.2, f', pm, ⟨by omega, by rw [decide_eq_true (Nat.succ_pos cnt)]; exact hX.2⟩, hp3⟩
            · intro hb
              have hX := HX2.out
              have hb2 : bm = true := hb
              subst hb2
              rw [if_pos rfl] at hX
              exact ⟨by omega, hX.2.symm⟩
        · have HVE : Hid (V = (noP, k, true)) := by
            have h := HX.out.2
            rw [HF'.out] at h
            unfold memsF at h
            rw [if_neg hlt] at h
            exact h.symm
          have HF : Hid (fin = badR k) := by show _ = _; rw [HF0.out, HVE.out]; rfl
          clear HVE HX HF' HF0
          go_upto_region 10 with (go_at_call 120; refine (more_any _ R s k false (by exact HS.out) (by unfold maxLen; omega)).mono ?_; rintro e w' ⟨rfl, nm, rfl⟩)
          have HS1 : Hid (ScIn (wr.drewN nm) R s k false) := HS.out
          have HA1 : Hid (SetIn (wr.drewN nm) w.heap.size 138 noP) := HA.out
          have HO1 : Hid (Only R w (wr.drewN nm)) := HO.out.drewN nm
          clear q2 HS HA HP HO
          generalize wr.drewN nm = w1 at HS1 HA1 HO1 ⊢
          have q1 := HS1.out.c1
          go_upto_region 17 with (go_at_call 132; refine (fail_any _ R s k false k (by exact HS1.out)).mono ?_; rintro e wf ⟨rfl, hsf, hof⟩)
          have HZf := Lib.hid (HA1.out.only hof (Ne.symm hRG1))
          have HOf := Lib.hid (HO1.out.trans hof)
          have HSf := Lib.hid hsf
          clear hsf hof q1 HS1 HA1 HO1
          go_wp2_with (refine wpList_store_row rfl 138 (.tmp 2) (.tmp 78) rfl (w.heap.size) zeroA rfl rfl 138 (setC noP).toArray HZf.out (by rw [set_size]; rfl) (by rw [setC_size]; rfl) zero_one ?_; rw [zero_eq])
          exact bodyPost_ret (v := .agg (setC noP).toArray) (res_set Tryd.results129 _ _ w.heap.size 138 noP rfl (HZf.out.row noP)) rfl ⟨by (rw [HF.out] <;> rfl), by rw [HF.out]; exact HSf.out.keep (setRow_other _ _ _ _ hRG1), HOf.out.rowNew (Nat.le_refl _) _⟩

end Go.Proofs.YtpboaadjbkaidaaDoor

namespace Go.Proofs.YtpboaadjbkaidaaDoor
set_option maxRecDepth 100000
open Go.RowKit

def outF (s : ByteArray) (i : Nat) : SR :=
  if bt s i = 46 then ⟨notP noP, 0, false, i + 1, false⟩
  else if bt s i = 92 then escF s i
  else if bt s i = 91 then bracketsF s i
  else if wrB (bt s i) = true ∧ inOut (bt s i) = false then ⟨oneP (bt s i), bt s i, true, i + 1, false⟩
  else badR i

set_option maxRecDepth 100000 in
set_option maxHeartbeats 4000000 in
theorem outside_any (w : World) (R : Nat) (s : ByteArray) (i : Nat) (h : ScIn w R s i false) (hi : i < s.size) (hs : s.size ≤ 2147483648) :
    Calls Tryd.prog 121 #[.pointer (some ⟨R, 0, none⟩)] w fun e w' => e = .returned (.agg (setC (outF s i).p).toArray) ∧ ScIn w' R s (outF s i).j (outF s i).bad ∧ Only R w w' := by
  have hR := h.lt
  have hRG1 : R ≠ w.heap.size := by omega
  have hRG2 : R ≠ w.heap.size + 1 := by omega
  have HS0 : Hid (ScIn (w.alloc (.cells #[.int .u8 0, .int .u8 0, .int .u8 0, .int .u8 0, .int .u8 0, .int .u8 0, .int .u8 0, .int .u8 0, .int .u8 0, .int .u8 0, .int .u8 0, .int .u8 0, .int .u8 0, .int .u8 0, .int .u8 0, .int .u8 0, .int .u8 0, .int .u8 0, .int .u8 0, .int .u8 0, .int .u8 0, .int .u8 0, .int .u8 0, .int .u8 0, .int .u8 0, .int .u8 0, .int .u8 0, .int .u8 0, .int .u8 0, .int .u8 0, .int .u8 0, .int .u8 0] 138)) R s i false) := h.below ((Below.refl _ w).alloc (Nat.le_refl _) (.cells #[.int .u8 0, .int .u8 0, .int .u8 0, .int .u8 0, .int .u8 0, .int .u8 0, .int .u8 0, .int .u8 0, .int .u8 0, .int .u8 0, .int .u8 0, .int .u8 0, .int .u8 0, .int .u8 0, .int .u8 0, .int .u8 0, .int .u8 0, .int .u8 0, .int .u8 0, .int .u8 0, .int .u8 0, .int .u8 0, .int .u8 0, .int .u8 0, .int .u8 0, .int .u8 0, .int .u8 0, .int .u8 0, .int .u8 0, .int .u8 0, .int .u8 0, .int .u8 0] 138))
  have HA0 : Hid (SetIn (w.alloc (.cells #[.int .u8 0, .int .u8 0, .int .u8 0, .int .u8 0, .int .u8 0, .int .u8 0, .int .u8 0, .int .u8 0, .int .u8 0, .int .u8 0, .int .u8 0, .int .u8 0, .int .u8 0, .int .u8 0, .int .u8 0, .int .u8 0, .int .u8 0, .int .u8 0, .int .u8 0, .int .u8 0, .int .u8 0, .int .u8 0, .int .u8 0, .int .u8 0, .int .u8 0, .int .u8 0, .int .u8 0, .int .u8 0, .int .u8 0, .int .u8 0, .int .u8 0, .int .u8 0] 138)) w.heap.size 138 noP) := zero_in w 138
  have HO0 := Lib.hid ((Only.refl R w).alloc (.cells #[.int .u8 0, .int .u8 0, .int .u8 0, .int .u8 0, .int .u8 0, .int .u8 0, .int .u8 0, .int .u8 0, .int .u8 0, .int .u8 0, .int .u8 0, .int .u8 0, .int .u8 0, .int .u8 0, .int .u8 0, .int .u8 0, .int .u8 0, .int .u8 0, .int .u8 0, .int .u8 0, .int .u8 0, .int .u8 0, .int .u8 0, .int .u8 0, .int .u8 0, .int .u8 0, .int .u8 0, .int .u8 0, .int .u8 0, .int .u8 0, .int .u8 0, .int .u8 0] 138))
  have HN0 : Hid ((w.alloc (.cells #[.int .u8 0, .int .u8 0, .int .u8 0, .int .u8 0, .int .u8 0, .int .u8 0, .int .u8 0, .int .u8 0, .int .u8 0, .int .u8 0, .int .u8 0, .int .u8 0, .int .u8 0, .int .u8 0, .int .u8 0, .int .u8 0, .int .u8 0, .int .u8 0, .int .u8 0, .int .u8 0, .int .u8 0, .int .u8 0, .int .u8 0, .int .u8 0, .int .u8 0, .int .u8 0, .int .u8 0, .int .u8 0, .int .u8 0, .int .u8 0, .int .u8 0, .int .u8 0] 138)).heap.size = w.heap.size + 1) := by show _ = _; simp
  clear h
  obtain ⟨c, HC⟩ : ∃ c, Hid (c = bt s i) := ⟨_, rfl⟩
  have hc2 : c < 256 := by rw [HC.out]; exact bt_lt s i
  generalize hfin : outF s i = fin
  have HF0 : Hid (fin = outF s i) := hfin.symm
  clear hfin
  go_enter Tryd.func121, Tryd.ntmps121
  go_upto_region 1 with fail
  generalize w.alloc (.cells #[.int .u8 0, .int .u8 0, .int .u8 0, .int .u8 0, .int .u8 0, .int .u8 0, .int .u8 0, .int .u8 0, .int .u8 0, .int .u8 0, .int .u8 0, .int .u8 0, .int .u8 0, .int .u8 0, .int .u8 0, .int .u8 0, .int .u8 0, .int .u8 0, .int .u8 0, .int .u8 0, .int .u8 0, .int .u8 0, .int .u8 0, .int .u8 0, .int .u8 0, .int .u8 0, .int .u8 0, .int .u8 0, .int .u8 0, .int .u8 0, .int .u8 0, .int .u8 0] 138) = w1 at HS0 HA0 HO0 HN0
  have q0 := HS0.out.c0
  have q1 := HS0.out.c1
  have hi' : (i : Int) < (s.size : Int) := by omega
  go_wp2_with fail
  go_quiet (fail)
  rw [show s[i].toNat = c by rw [HC.out, bt_get s i hi]]
  have HS1 : Hid (ScIn (w1.drewN nq) R s i false) := HS0.out
  have HA1 : Hid (SetIn (w1.drewN nq) w.heap.size 138 noP) := HA0.out
  have HO1 : Hid (Only R w (w1.drewN nq)) := HO0.out.drewN nq
  have HN1 : Hid ((w1.drewN nq).heap.size = w.heap.size + 1) := HN0.out
  clear q0 q1 HS0 HA0 HO0 HN0
  generalize w1.drewN nq = wb at HS1 HA1 HO1 HN1 ⊢
  go_upto_region 3 with fail
  rw [HN1.out]
  have HS2 := Lib.hid (HS1.out.below ((Below.refl _ wb).alloc (Nat.le_refl _) (.cells #[.int .u8 0, .int .u8 0, .int .u8 0, .int .u8 0, .int .u8 0, .int .u8 0, .int .u8 0, .int .u8 0, .int .u8 0, .int .u8 0, .int .u8 0, .int .u8 0, .int .u8 0, .int .u8 0, .int .u8 0, .int .u8 0, .int .u8 0, .int .u8 0, .int .u8 0, .int .u8 0, .int .u8 0, .int .u8 0, .int .u8 0, .int .u8 0, .int .u8 0, .int .u8 0, .int .u8 0, .int .u8 0, .int .u8 0, .int .u8 0, .int .u8 0, .int .u8 0] 138)))
  have HA2 := Lib.hid (HA1.out.below ((Below.refl _ wb).alloc (Nat.le_refl _) (.cells #[.int .u8 0, .int .u8 0, .int .u8 0, .int .u8 0, .int .u8 0, .int .u8 0, .int .u8 0, .int .u8 0, .int .u8 0, .int .u8 0, .int .u8 0, .int .u8 0, .int .u8 0, .int .u8 0, .int .u8 0, .int .u8 0, .int .u8 0, .int .u8 0, .int .u8 0, .int .u8 0, .int .u8 0, .int .u8 0, .int .u8 0, .int .u8 0, .int .u8 0, .int .u8 0, .int .u8 0, .int .u8 0, .int .u8 0, .int .u8 0, .int .u8 0, .int .u8 0] 138)))
  have HO2 := Lib.hid (HO1.out.alloc (.cells #[.int .u8 0, .int .u8 0, .int .u8 0, .int .u8 0, .int .u8 0, .int .u8 0, .int .u8 0, .int .u8 0, .int .u8 0, .int .u8 0, .int .u8 0, .int .u8 0, .int .u8 0, .int .u8 0, .int .u8 0, .int .u8 0, .int .u8 0, .int .u8 0, .int .u8 0, .int .u8 0, .int .u8 0, .int .u8 0, .int .u8 0, .int .u8 0, .int .u8 0, .int .u8 0, .int .u8 0, .int .u8 0, .int .u8 0, .int .u8 0, .int .u8 0, .int .u8 0] 138))
  have HP2 : Hid (SetIn (wb.alloc (.cells #[.int .u8 0, .int .u8 0, .int .u8 0, .int .u8 0, .int .u8 0, .int .u8 0, .int .u8 0, .int .u8 0, .int .u8 0, .int .u8 0, .int .u8 0, .int .u8 0, .int .u8 0, .int .u8 0, .int .u8 0, .int .u8 0, .int .u8 0, .int .u8 0, .int .u8 0, .int .u8 0, .int .u8 0, .int .u8 0, .int .u8 0, .int .u8 0, .int .u8 0, .int .u8 0, .int .u8 0, .int .u8 0, .int .u8 0, .int .u8 0, .int .u8 0, .int .u8 0] 138)) (w.heap.size + 1) 138 noP) := by
    have h := zero_in wb 138
    rw [HN1.out] at h
    exact h
  clear HS1 HA1 HO1 HN1
  generalize wb.alloc (.cells #[.int .u8 0, .int .u8 0, .int .u8 0, .int .u8 0, .int .u8 0, .int .u8 0, .int .u8 0, .int .u8 0, .int .u8 0, .int .u8 0, .int .u8 0, .int .u8 0, .int .u8 0, .int .u8 0, .int .u8 0, .int .u8 0, .int .u8 0, .int .u8 0, .int .u8 0, .int .u8 0, .int .u8 0, .int .u8 0, .int .u8 0, .int .u8 0, .int .u8 0, .int .u8 0, .int .u8 0, .int .u8 0, .int .u8 0, .int .u8 0, .int .u8 0, .int .u8 0] 138) = w2 at HS2 HA2 HO2 HP2 ⊢
  have HS1 := HS2
  have HA1 := HA2
  have HP1 := HP2
  have HO1 := HO2
  clear HS2 HA2 HO2 HP2
  have q1 := HS1.out.c1
  have f1 := HS1.out.free 1
  by_cases h46 : c = 46
  · have HF : Hid (fin = ⟨notP noP, 0, false, i + 1, false⟩) := by
      show _ = _
      rw [HF0.out]
      unfold outF
      rw [← HC.out, if_pos h46]
    clear HF0 HC
    subst h46
    obtain ⟨k1, HK1⟩ : ∃ k1, Hid (k1 = i + 1) := ⟨_, rfl⟩
    have hk1a : i < k1 := by have := HK1.out; omega
    have hk1b : k1 < i + 2 := by have := HK1.out; omega
    rw [← HK1.out] at HF
    go_upto_region 5 with fail
    rw [show (i : Int) + 1 = (k1 : Int) by omega]
    have HS4 := Lib.hid (HS1.out.set1 k1)
    have HA4 := Lib.hid (HA1.out.other (Ne.symm hRG1) 1 (.int .i64 k1))
    have HP4 := Lib.hid (HP1.out.other (Ne.symm hRG2) 1 (.int .i64 k1))
    have HO4 := Lib.hid (HO1.out.set 1 (.int .i64 k1))
    clear q1 f1 HS1 HA1 HP1 HO1
    generalize w2.setCell ⟨R, 1, none⟩ (.int .i64 k1) = w5 at HS4 HA4 HP4 HO4 ⊢
    go_wp2_with (first
      | (refine wpList_load_row rfl 138 (.tmp 4) rfl ((w.heap.size + 1)) rfl 138 (setC noP).toArray (0, 0) _ HP4.out Tryd.underlying138 rfl (by rw [set_size, setC_size]) ?_)
      | (go_at_call 127; refine (inverted_any noP _).mono ?_; rintro e w6 ⟨rfl, hb6⟩)
      | (refine wpList_store_row rfl 138 (.tmp 2) (.tmp 25) rfl (w.heap.size) (setC (notP noP)).toArray rfl rfl 138 (setC noP).toArray (HA4.out.below hb6) (by rw [set_size, setC_size]) (by simp only [setC_size]) (setC_one _) ?_))
    exact bodyPost_ret (v := .agg (setC (notP noP)).toArray) (res_set Tryd.results121 _ _ w.heap.size 138 (notP noP) rfl ((HA4.out.below hb6).row (notP noP))) rfl ⟨by (rw [HF.out] <;> rfl), by rw [HF.out]; exact (HS4.out.below hb6).keep (setRow_other _ _ _ _ hRG1), (HO4.out.bel hb6).rowNew (Nat.le_refl _) _⟩
  have h46' : ((c : Int) == 46) = false := beq_eq_false_iff_ne.2 (by omega)
  by_cases h92 : c = 92
  · have HF : Hid (fin = escF s i) := by
      show _ = _
      rw [HF0.out]
      unfold outF
      rw [← HC.out, if_neg h46, if_pos h92]
    have C := escaped_any w2 R s i HS1.out hi hs
    generalize escF s i = r at C HF
    have HE := Lib.hid C
    clear C q1 f1 HF0 HC h46 h46'
    subst h92
    go_wp2_with (first
      | (go_at_call 128; refine HE.out.mono ?_; rintro e w3 ⟨rfl, hs3, ho3⟩)
      | (refine wpList_store_row rfl 138 (.tmp 4) (.tmp 32) rfl ((w.heap.size + 1)) (setC r.p).toArray rfl rfl 138 (setC noP).toArray (HP1.out.only ho3 (Ne.symm hRG2)) (by rw [set_size, setC_size]) (by simp only [setC_size]) (setC_one _) ?_)
      | (refine wpList_load_row rfl 138 (.tmp 4) rfl ((w.heap.size + 1)) rfl 138 (setC r.p).toArray (0, 0) _ ((HP1.out.only ho3 (Ne.symm hRG2)).row r.p) Tryd.underlying138 rfl (by rw [set_size, setC_size]) ?_)
      | (refine wpList_store_row rfl 138 (.tmp 2) (.tmp 35) rfl (w.heap.size) (setC r.p).toArray rfl rfl 138 (setC noP).toArray ((HA1.out.only ho3 (Ne.symm hRG1)).keep (setRow_other _ _ _ _ (by omega))) (by rw [set_size, setC_size]) (by simp only [setC_size]) (setC_one _) ?_))
    exact bodyPost_ret (v := .agg (setC r.p).toArray) (res_set Tryd.results121 _ _ w.heap.size 138 r.p rfl (((HA1.out.only ho3 (Ne.symm hRG1)).keep (w' := w3.setRow (w.heap.size + 1) (setC r.p).toArray) (setRow_other _ _ _ _ (by omega))).row r.p)) rfl ⟨by (rw [HF.out] <;> rfl), by rw [HF.out]; exact (hs3.keep (w' := w3.setRow (w.heap.size + 1) (setC r.p).toArray) (setRow_other _ _ _ _ hRG2)).keep (setRow_other _ _ _ _ hRG1), ((HO1.out.trans ho3).rowNew (g := (w.heap.size + 1)) (Nat.le_succ _) _).rowNew (Nat.le_refl _) _⟩
  have h92' : ((c : Int) == 92) = false := beq_eq_false_iff_ne.2 (by omega)
  by_cases h91 : c = 91
  · have HF : Hid (fin = bracketsF s i) := by
      show _ = _
      rw [HF0.out]
      unfold outF
      rw [← HC.out, if_neg h46, if_neg h92, if_pos h91]
    have C := brackets_any w2 R s i HS1.out hi hs
    generalize bracketsF s i = r at C HF
    have HE := Lib.hid C
    clear C q1 f1 HF0 HC h46 h46' h92 h92'
    subst h91
    go_wp2_with (first
      | (go_at_call 129; refine HE.out.mono ?_; rintro e w3 ⟨rfl, hs3, ho3⟩)
      | (refine wpList_store_row rfl 138 (.tmp 2) (.tmp 40) rfl (w.heap.size) (setC r.p).toArray rfl rfl 138 (setC noP).toArray (HA1.out.only ho3 (Ne.symm hRG1)) (by rw [set_size, setC_size]) (by simp only [setC_size]) (setC_one _) ?_))
    exact bodyPost_ret (v := .agg (setC r.p).toArray) (res_set Tryd.results121 _ _ w.heap.size 138 r.p rfl ((HA1.out.only ho3 (Ne.symm hRG1)).row r.p)) rfl ⟨by (rw [HF.out] <;> rfl), by rw [HF.out]; exact hs3.keep (setRow_other _ _ _ _ hRG1), (HO1.out.trans ho3).rowNew (Nat.le_refl _) _⟩
  have h91' : ((c : Int) == 91) = false := beq_eq_false_iff_ne.2 (by omega)
  obtain ⟨z, HI, hz⟩ : ∃ z, Hid (∀ w, Calls Tryd.prog 131 #[.string (⟨#[42, 43, 63, 40, 41, 124, 93, 123, 125]⟩ : ByteArray), .int .u8 c] w fun e w' => e = .returned (.int .i64 z) ∧ w = w') ∧ decide (0 ≤ z) = inOut c := ⟨_, fun w => index_any (⟨#[42, 43, 63, 40, 41, 124, 93, 123, 125]⟩ : ByteArray) c w, index_out ⟨c, hc2⟩⟩
  by_cases hw : wrB c = true
  · by_cases hin : inOut c = true
    · have hz1 : 0 ≤ z := by rw [hin] at hz; simpa using hz
      have HF : Hid (fin = badR i) := by
        show _ = _
        rw [HF0.out]
        unfold outF
        rw [← HC.out, if_neg h46, if_neg h92, if_neg h91, if_neg (by simp [hin])]
      clear hz hin h92 h91 h46 HF0 HC
      go_upto_region 13 with (first
        | (go_at_call 130; refine (written_any _ _ (by omega)).mono ?_; rintro e w' ⟨rfl, rfl⟩)
        | (go_at_call 131; refine (HI.out _).mono ?_; rintro e w' ⟨rfl, rfl⟩)
        | (go_at_call 132; refine (fail_any _ R s i false i (by exact HS1.out)).mono ?_; rintro e wf ⟨rfl, hsf, hof⟩))
      have HSf := Lib.hid hsf
      have HAf := Lib.hid (HA1.out.only hof (Ne.symm hRG1))
      have HPf := Lib.hid (HP1.out.only hof (Ne.symm hRG2))
      have HOf := Lib.hid (HO1.out.trans hof)
      clear hsf hof q1 f1 HS1 HA1 HP1 HO1
      go_wp2_with (first
        | (refine wpList_load_row rfl 138 (.tmp 4) rfl ((w.heap.size + 1)) rfl 138 (setC noP).toArray (0, 0) _ HPf.out Tryd.underlying138 rfl (by rw [set_size, setC_size]) ?_)
        | (refine wpList_store_row rfl 138 (.tmp 2) (.tmp 56) rfl (w.heap.size) (setC noP).toArray rfl rfl 138 (setC noP).toArray HAf.out (by rw [set_size, setC_size]) (by simp only [setC_size]) (setC_one _) ?_))
      exact bodyPost_ret (v := .agg (setC noP).toArray) (res_set Tryd.results121 _ _ w.heap.size 138 noP rfl (HAf.out.row noP)) rfl ⟨by (rw [HF.out] <;> rfl), by rw [HF.out]; exact HSf.out.keep (setRow_other _ _ _ _ hRG1), HOf.out.rowNew (Nat.le_refl _) _⟩
    · have hin' : inOut c = false := by simpa using hin
      have hz1 : ¬ 0 ≤ z := by rw [hin'] at hz; simpa using hz
      have HF : Hid (fin = ⟨oneP c, c, true, i + 1, false⟩) := by
        show _ = _
        rw [HF0.out]
        unfold outF
        rw [← HC.out, if_neg h46, if_neg h92, if_neg h91, if_pos ⟨hw, hin'⟩]
      clear hz hin hin' h92 h91 h46 HF0 HC
      obtain ⟨k1, HK1⟩ : ∃ k1, Hid (k1 = i + 1) := ⟨_, rfl⟩
      have hk1a : i < k1 := by have := HK1.out; omega
      have hk1b : k1 < i + 2 := by have := HK1.out; omega
      rw [← HK1.out] at HF
      go_upto_region 15 with (first
        | (go_at_call 130; refine (written_any _ _ (by omega)).mono ?_; rintro e w' ⟨rfl, rfl⟩)
        | (go_at_call 131; refine (HI.out _).mono ?_; rintro e w' ⟨rfl, rfl⟩))
      rw [show (i : Int) + 1 = (k1 : Int) by omega]
      have HS4 := Lib.hid (HS1.out.set1 k1)
      have HA4 := Lib.hid (HA1.out.other (Ne.symm hRG1) 1 (.int .i64 k1))
      have HP4 := Lib.hid (HP1.out.other (Ne.symm hRG2) 1 (.int .i64 k1))
      have HO4 := Lib.hid (HO1.out.set 1 (.int .i64 k1))
      clear q1 f1 HS1 HA1 HP1 HO1
      generalize w2.setCell ⟨R, 1, none⟩ (.int .i64 k1) = w5 at HS4 HA4 HP4 HO4 ⊢
      go_upto_region 16 with (go_at_call 133; refine (add_any noP (w.heap.size + 1) c 138 _ (by exact HP4.out) hc2).mono ?_; rintro e w6 ⟨rfl, hz6, ho6⟩)
      have HS6 := Lib.hid (HS4.out.only ho6 hRG2)
      have HA6 := Lib.hid (HA4.out.only ho6 (by omega))
      have HZ6 : Hid (SetIn w6 (w.heap.size + 1) 138 (oneP c)) := hz6
      have HO6 := Lib.hid (HO4.out.new ho6 (Nat.le_succ _))
      clear hz6 ho6 HS4 HP4 HO4 HA4
      go_wp2_with (first
        | (refine wpList_load_row rfl 138 (.tmp 4) rfl ((w.heap.size + 1)) rfl 138 (setC (oneP c)).toArray (0, 0) _ HZ6.out Tryd.underlying138 rfl (by rw [set_size, setC_size]) ?_)
        | (refine wpList_store_row rfl 138 (.tmp 2) (.tmp 66) rfl (w.heap.size) (setC (oneP c)).toArray rfl rfl 138 (setC noP).toArray HA6.out (by rw [set_size, setC_size]) (by simp only [setC_size]) (setC_one _) ?_))
      exact bodyPost_ret (v := .agg (setC (oneP c)).toArray) (res_set Tryd.results121 _ _ w.heap.size 138 (oneP c) rfl (HA6.out.row (oneP c))) rfl ⟨by (rw [HF.out] <;> rfl), by rw [HF.out]; exact HS6.out.keep (setRow_other _ _ _ _ hRG1), HO6.out.rowNew (Nat.le_refl _) _⟩
  · have hw' : wrB c = false := by simpa using hw
    have HF : Hid (fin = badR i) := by
      show _ = _
      rw [HF0.out]
      unfold outF
      rw [← HC.out, if_neg h46, if_neg h92, if_neg h91, if_neg (by simp [hw'])]
    clear hz HI hw h92 h91 h46 HF0 HC
    go_upto_region 13 with (first
      | (go_at_call 130; refine (written_any _ _ (by omega)).mono ?_; rintro e w' ⟨rfl, rfl⟩)
      | (go_at_call 132; refine (fail_any _ R s i false i (by exact HS1.out)).mono ?_; rintro e wf ⟨rfl, hsf, hof⟩))
    have HSf := Lib.hid hsf
    have HAf := Lib.hid (HA1.out.only hof (Ne.symm hRG1))
    have HPf := Lib.hid (HP1.out.only hof (Ne.symm hRG2))
    have HOf := Lib.hid (HO1.out.trans hof)
    clear hsf hof q1 f1 HS1 HA1 HP1 HO1
    go_wp2_with (first
      | (refine wpList_load_row rfl 138 (.tmp 4) rfl ((w.heap.size + 1)) rfl 138 (setC noP).toArray (0, 0) _ HPf.out Tryd.underlying138 rfl (by rw [set_size, setC_size]) ?_)
      | (refine wpList_store_row rfl 138 (.tmp 2) (.tmp 56) rfl (w.heap.size) (setC noP).toArray rfl rfl 138 (setC noP).toArray HAf.out (by rw [set_size, setC_size]) (by simp only [setC_size]) (setC_one _) ?_))
    exact bodyPost_ret (v := .agg (setC noP).toArray) (res_set Tryd.results121 _ _ w.heap.size 138 noP rfl (HAf.out.row noP)) rfl ⟨by (rw [HF.out] <;> rfl), by rw [HF.out]; exact HSf.out.keep (setRow_other _ _ _ _ hRG1), HOf.out.rowNew (Nat.le_refl _) _⟩

end Go.Proofs.YtpboaadjbkaidaaDoor

namespace Go.Proofs.YtpboaadjbkaidaaDoor
set_option maxRecDepth 100000
open Go.RowKit

theorem memsF_ok (s : ByteArray) : ∀ (f i : Nat) (m : Bool) (p : Nat → Bool), (memsF s f i m p).2.2 = false → i < (memsF s f i m p).2.1 ∧ (memsF s f i m p).2.1 ≤ s.size
  | 0, _, _, _ => fun h => absurd h (by simp [memsF])
  | f + 1, i, m, p => by
    unfold memsF
    split
    · rename_i hi
      split
      · intro _
        exact ⟨Nat.lt_succ_self i, hi⟩
      · split
        · intro h
          exact absurd h (by simp)
        · rename_i hb
          intro h
          have h1 := memberF_ok s i p hi (by simpa using hb)
          have h2 := memsF_ok s f _ true _ h
          exact ⟨Nat.lt_trans h1.1 h2.1, h2.2⟩
    · intro h
      exact absurd h (by simp)
theorem finishF_ok (inv : Bool) (r : (Nat → Bool) × Nat × Bool) (h : (finishF inv r).bad = false) : r.2.2 = false ∧ (finishF inv r).j = r.2.1 := by
  unfold finishF at *
  by_cases hb : r.2.2 = true
  · rw [if_pos hb] at h
    exact absurd h (by simp [badR])
  · rw [if_neg hb]
    exact ⟨by simpa using hb, rfl⟩
theorem outF_ok (s : ByteArray) (i : Nat) (hi : i < s.size) (h : (outF s i).bad = false) : i < (outF s i).j ∧ (outF s i).j ≤ s.size := by
  unfold outF at *
  split at h
  · rename_i h1
    rw [if_pos h1]
    exact ⟨Nat.lt_succ_self i, hi⟩
  · rename_i h1
    rw [if_neg h1]
    split at h
    · rename_i h2
      rw [if_pos h2]
      have := escF_ok s i hi
      exact ⟨this.2.2.1 h, this.2.1⟩
    · rename_i h2
      rw [if_neg h2]
      split at h
      · rename_i h3
        rw [if_pos h3]
        unfold bracketsF at *
        split at h
        · rename_i h4
          rw [if_pos h4]
          have h5 := finishF_ok _ _ h
          have h6 := memsF_ok s _ _ _ _ h5.1
          rw [h5.2]
          exact ⟨by omega, h6.2⟩
        · rename_i h4
          rw [if_neg h4]
          have h5 := finishF_ok _ _ h
          have h6 := memsF_ok s _ _ _ _ h5.1
          rw [h5.2]
          exact ⟨by omega, h6.2⟩
      · rename_i h3
        rw [if_neg h3]
        split at h
        · rename_i h4
          rw [if_pos h4]
          exact ⟨Nat.lt_succ_self i, hi⟩
        · exact absurd h (by simp [badR])
/-- The sign behind a set. -/
def quantF (s : ByteArray) (j : Nat) : Int × Bool × Nat :=
  if j < s.size then
    if bt s j = 42 then (0, true, j + 1) else if bt s j = 43 then (1, true, j + 1) else if bt s j = 63 then (0, false, j + 1) else (1, false, j)
  else (1, false, j)
/-- The atoms from i on, behind those of l: the atoms, the offset, the error. -/
def parseL (s : ByteArray) : Nat → Nat → List At → List At × Nat × Int
  | 0, _, l => (l, 0, 0)
  | f + 1, i, l =>
    if i < s.size then
      if 32 ≤ l.length then ([], i, 3)
      else if (outF s i).bad = true then ([], (outF s i).j, 2)
      else parseL s f (quantF s (outF s i).j).2.2 (l ++ [⟨(outF s i).p, (quantF s (outF s i).j).1, (quantF s (outF s i).j).2.1⟩])
    else (l, 0, 0)
def parseF (s : ByteArray) : List At × Nat × Int := parseL s (s.size + 1) 0 []

end Go.Proofs.YtpboaadjbkaidaaDoor

namespace Go.Proofs.YtpboaadjbkaidaaDoor
set_option maxRecDepth 100000
open Go.RowKit

/-- The places behind an atom that are reached by a byte. -/
def nxF (x : At) (s : ByteArray) (f : Nat → Bool) : Nat → Bool
  | 0 => false
  | i + 1 => (f i || (x.many && nxF x s f i)) && x.p (bt s i)
def advF (x : At) (s : ByteArray) (f : Nat → Bool) (i : Nat) : Bool := nxF x s f i || (decide (x.mn < 1) && f i)
theorem adv_zero (x : At) (s : ByteArray) (f : Nat → Bool) : advF x s f 0 = (decide (x.mn < 1) && f 0) := by
  unfold advF nxF
  rw [Bool.false_or]
theorem adv_own (x : At) (s : ByteArray) (f : Nat → Bool) (k : Nat) : advF x s f (k + 1) = ((decide (x.mn < 1) && f (k + 1)) || (x.p (bt s k) && (f k || (x.many && advF x s f k)))) := by
  unfold advF
  rw [show nxF x s f (k + 1) = ((f k || (x.many && nxF x s f k)) && x.p (bt s k)) from rfl]
  cases f k <;> cases x.many <;> cases nxF x s f k <;> cases decide (x.mn < 1) <;> cases f (k + 1) <;> cases x.p (bt s k) <;> rfl
def reachF (s : ByteArray) : List At → (Nat → Bool) → Nat → Bool
  | [], f => f
  | x :: p, f => reachF s p (advF x s f)
def startF : Nat → Bool := fun i => i == 0
def allF : Nat → Bool := fun _ => true
/-- The greatest place below n, or -1. -/
def longF (f : Nat → Bool) : Nat → Int
  | 0 => -1
  | n + 1 => if f n = true then (n : Int) else longF f n
def longestF (p : List At) (s : ByteArray) : Int := longF (reachF s p startF) (s.size + 1)
def prefixF (p : List At) (s : ByteArray) : Bool := decide (0 ≤ longestF p s)
def suffixF (p : List At) (s : ByteArray) : Bool := reachF s p allF s.size
end Go.Proofs.YtpboaadjbkaidaaDoor

namespace Go.Proofs.YtpboaadjbkaidaaDoor
set_option maxRecDepth 100000
open Go.RowKit

/-- The words of an atom. -/
def inA (x : At) (u : List Nat) : Prop := (u = [] ∧ x.mn < 1) ∨ (u ≠ [] ∧ (∀ b ∈ u, x.p b = true) ∧ (u.length = 1 ∨ x.many = true))
/-- The words of a pattern. -/
def Lang : List At → List Nat → Prop
  | [], u => u = []
  | x :: p, u => ∃ a b, u = a ++ b ∧ inA x a ∧ Lang p b

theorem lang_append : ∀ (p q : List At) (u : List Nat), Lang (p ++ q) u ↔ ∃ a b, u = a ++ b ∧ Lang p a ∧ Lang q b
  | [], q, u => ⟨fun h => ⟨[], u, rfl, rfl, h⟩, fun ⟨a, b, h1, h2, h3⟩ => by
      have h2' : a = [] := h2
      subst h2'
      rw [h1]
      exact h3⟩
  | x :: p, q, u => ⟨fun ⟨a, b, h1, h2, h3⟩ => by
      obtain ⟨c, d, h4, h5, h6⟩ := (lang_append p q b).1 h3
      exact ⟨a ++ c, d, by rw [h1, h4, List.append_assoc], ⟨a, c, rfl, h2, h5⟩, h6⟩, fun ⟨a, b, h1, ⟨c, d, h4, h5, h6⟩, h3⟩ =>
      ⟨c, d ++ b, by rw [h1, h4, List.append_assoc], h5, (lang_append p q (d ++ b)).2 ⟨d, b, rfl, h6, h3⟩⟩⟩
theorem lang_one (x : At) (u : List Nat) : Lang [x] u ↔ inA x u :=
  ⟨fun ⟨a, b, h1, h2, h3⟩ => by
    have h3' : b = [] := h3
    subst h3'
    rw [h1, List.append_nil]
    exact h2, fun h => ⟨u, [], by rw [List.append_nil], h, rfl⟩⟩
theorem inA_rev (x : At) (u : List Nat) : inA x u.reverse ↔ inA x u := by
  unfold inA
  rw [List.length_reverse]
  have e : u.reverse = [] ↔ u = [] := List.reverse_eq_nil_iff
  constructor
  · rintro (h | ⟨h1, h2, h3⟩)
    · exact .inl ⟨e.1 h.1, h.2⟩
    · exact .inr ⟨fun h => h1 (e.2 h), fun b hb => h2 b (List.mem_reverse.2 hb), h3⟩
  · rintro (h | ⟨h1, h2, h3⟩)
    · exact .inl ⟨e.2 h.1, h.2⟩
    · exact .inr ⟨fun h => h1 (e.1 h), fun b hb => h2 b (List.mem_reverse.1 hb), h3⟩
theorem lang_rev_imp : ∀ (p : List At) (u : List Nat), Lang p u → Lang p.reverse u.reverse
  | [], u, h => by
    have h' : u = [] := h
    subst h'
    rfl
  | x :: p, u, ⟨a, b, h1, h2, h3⟩ => by
    rw [List.reverse_cons, h1, List.reverse_append]
    exact (lang_append _ _ _).2 ⟨_, _, rfl, lang_rev_imp p b h3, (lang_one x _).2 ((inA_rev x a).2 h2)⟩
theorem lang_rev (p : List At) (u : List Nat) : Lang p.reverse u.reverse ↔ Lang p u :=
  ⟨fun h => by
    have := lang_rev_imp _ _ h
    rwa [List.reverse_reverse, List.reverse_reverse] at this, lang_rev_imp p u⟩

/-! ### Places -/
/-- The bytes of s from i up to n. -/
def seg (s : ByteArray) (i n : Nat) : List Nat := ((List.range n).drop i).map (bt s)
theorem seg_self (s : ByteArray) (i : Nat) : seg s i i = [] := by unfold seg; rw [List.drop_eq_nil_of_le (by simp)]; rfl
theorem seg_len (s : ByteArray) (i n : Nat) : (seg s i n).length = n - i := by unfold seg; simp
theorem seg_snoc (s : ByteArray) (i n : Nat) (h : i ≤ n) : seg s i (n + 1) = seg s i n ++ [bt s n] := by
  unfold seg
  rw [List.range_succ, List.drop_append_of_le_length (by simpa using h), List.map_append]
  rfl
theorem seg_split (s : ByteArray) (i j n : Nat) (h1 : i ≤ j) (h2 : j ≤ n) : seg s i n = seg s i j ++ seg s j n := by
  induction n with
  | zero =>
    obtain rfl : j = 0 := by omega
    obtain rfl : i = 0 := by omega
    rw [seg_self]; rfl
  | succ n ih =>
    by_cases hj : j = n + 1
    · subst hj
      rw [seg_self, List.append_nil]
    · rw [seg_snoc s i n (by omega), seg_snoc s j n (by omega), ih (by omega), List.append_assoc]
theorem nx_lang (x : At) (s : ByteArray) (f : Nat → Bool) : ∀ n, nxF x s f n = true ↔ ∃ i, i < n ∧ f i = true ∧ (∀ b ∈ seg s i n, x.p b = true) ∧ (n - i = 1 ∨ x.many = true)
  | 0 => ⟨fun h => absurd h Bool.false_ne_true, fun ⟨i, h, _⟩ => absurd h (Nat.not_lt_zero i)⟩
  | n + 1 => by
    rw [show nxF x s f (n + 1) = ((f n || (x.many && nxF x s f n)) && x.p (bt s n)) from rfl, Bool.and_eq_true, Bool.or_eq_true, Bool.and_eq_true, nx_lang x s f n]
    constructor
    · rintro ⟨h | ⟨hm, i, h1, h2, h3, h4⟩, hp⟩
      · refine ⟨n, by omega, h, fun b hb => ?_, .inl (by omega)⟩
        rw [seg_snoc s n n (Nat.le_refl _), seg_self] at hb
        simp at hb
        rw [hb]
        exact hp
      · refine ⟨i, by omega, h2, fun b hb => ?_, .inr hm⟩
        rw [seg_snoc s i n (by omega)] at hb
        rcases List.mem_append.1 hb with hb | hb
        · exact h3 b hb
        · simp at hb
          rw [hb]
          exact hp
    · rintro ⟨i, h1, h2, h3, h4⟩
      have hp : x.p (bt s n) = true := h3 _ (by rw [seg_snoc s i n (by omega)]; exact List.mem_append_right _ (by simp))
      refine ⟨?_, hp⟩
      by_cases hi : i = n
      · subst hi
        exact .inl h2
      · have hm : x.many = true := by
          rcases h4 with h4 | h4
          · omega
          · exact h4
        exact .inr ⟨hm, i, by omega, h2, fun b hb => h3 b (by rw [seg_snoc s i n (by omega)]; exact List.mem_append_left _ hb), .inr hm⟩
theorem adv_lang (x : At) (s : ByteArray) (f : Nat → Bool) (n : Nat) : advF x s f n = true ↔ ∃ i, i ≤ n ∧ f i = true ∧ inA x (seg s i n) := by
  unfold advF
  rw [Bool.or_eq_true, Bool.and_eq_true, decide_eq_true_iff, nx_lang x s f n]
  constructor
  · rintro (⟨i, h1, h2, h3, h4⟩ | ⟨h1, h2⟩)
    · refine ⟨i, by omega, h2, .inr ⟨?_, h3, ?_⟩⟩
      · intro e
        have := seg_len s i n
        rw [e] at this
        simp at this
        omega
      · rw [seg_len]
        exact h4
    · exact ⟨n, Nat.le_refl _, h2, .inl ⟨seg_self s n, h1⟩⟩
  · rintro ⟨i, h1, h2, h3 | ⟨h3, h4, h5⟩⟩
    · have hi : i = n := by
        have := seg_len s i n
        rw [h3.1] at this
        simp at this
        omega
      subst hi
      exact .inr ⟨h3.2, h2⟩
    · rw [seg_len] at h5
      refine .inl ⟨i, ?_, h2, h4, h5⟩
      refine Nat.lt_of_le_of_ne h1 fun e => h3 ?_
      subst e
      exact seg_self s i
theorem seg_cut (s : ByteArray) (i n : Nat) (hin : i ≤ n) (a b : List Nat) (h : seg s i n = a ++ b) : ∃ j, i ≤ j ∧ j ≤ n ∧ seg s i j = a ∧ seg s j n = b := by
  have hl : a.length + b.length = n - i := by rw [← List.length_append, ← h, seg_len]
  refine ⟨i + a.length, by omega, by omega, ?_⟩
  have h2 := seg_split s i (i + a.length) n (by omega) (by omega)
  rw [h] at h2
  have h3 : a.length = (seg s i (i + a.length)).length := by rw [seg_len]; omega
  obtain ⟨e1, e2⟩ := List.append_inj h2 h3
  exact ⟨e1.symm, e2.symm⟩
theorem reach_lang (s : ByteArray) : ∀ (p : List At) (f : Nat → Bool) (n : Nat), reachF s p f n = true ↔ ∃ i, i ≤ n ∧ f i = true ∧ Lang p (seg s i n)
  | [], f, n => ⟨fun h => ⟨n, Nat.le_refl _, h, seg_self s n⟩, fun ⟨i, h1, h2, h3⟩ => by
      have h3' : seg s i n = [] := h3
      have : i = n := by
        have := seg_len s i n
        rw [h3'] at this
        simp at this
        omega
      subst this
      exact h2⟩
  | x :: p, f, n => by
    rw [show reachF s (x :: p) f n = reachF s p (advF x s f) n from rfl, reach_lang s p]
    constructor
    · rintro ⟨j, h1, h2, h3⟩
      obtain ⟨i, h4, h5, h6⟩ := (adv_lang x s f j).1 h2
      exact ⟨i, by omega, h5, _, _, seg_split s i j n h4 h1, h6, h3⟩
    · rintro ⟨i, h1, h2, a, b, h3, h4, h5⟩
      obtain ⟨j, h6, h7, h8, h9⟩ := seg_cut s i n h1 a b h3
      exact ⟨j, h7, (adv_lang x s f j).2 ⟨i, h6, h2, by rw [h8]; exact h4⟩, by rw [h9]; exact h5⟩
theorem suffix_lang (p : List At) (s : ByteArray) : suffixF p s = true ↔ ∃ i, i ≤ s.size ∧ Lang p (seg s i s.size) := by
  unfold suffixF
  rw [reach_lang]
  exact ⟨fun ⟨i, h1, _, h3⟩ => ⟨i, h1, h3⟩, fun ⟨i, h1, h3⟩ => ⟨i, h1, rfl, h3⟩⟩
theorem start_lang (p : List At) (s : ByteArray) (n : Nat) : reachF s p startF n = true ↔ Lang p (seg s 0 n) := by
  rw [reach_lang]
  constructor
  · rintro ⟨i, _, h2, h3⟩
    have : i = 0 := by unfold startF at h2; simpa using h2
    subst this
    exact h3
  · exact fun h => ⟨0, Nat.zero_le _, rfl, h⟩
theorem long_nonneg (f : Nat → Bool) : ∀ n, 0 ≤ longF f n ↔ ∃ i, i < n ∧ f i = true
  | 0 => ⟨fun h => absurd h (by unfold longF; decide), fun ⟨i, h, _⟩ => absurd h (Nat.not_lt_zero i)⟩
  | n + 1 => by
    unfold longF
    by_cases h : f n = true
    · rw [if_pos h]
      exact ⟨fun _ => ⟨n, by omega, h⟩, fun _ => by omega⟩
    · rw [if_neg h, long_nonneg f n]
      exact ⟨fun ⟨i, h1, h2⟩ => ⟨i, by omega, h2⟩, fun ⟨i, h1, h2⟩ => ⟨i, by
        refine Nat.lt_of_le_of_ne (by omega) fun e => h ?_
        rw [← e]
        exact h2, h2⟩⟩
theorem prefix_lang (p : List At) (s : ByteArray) : prefixF p s = true ↔ ∃ n, n ≤ s.size ∧ Lang p (seg s 0 n) := by
  unfold prefixF longestF
  rw [decide_eq_true_iff, long_nonneg]
  exact ⟨fun ⟨i, h1, h2⟩ => ⟨i, by omega, (start_lang p s i).1 h2⟩, fun ⟨i, h1, h2⟩ => ⟨i, by omega, (start_lang p s i).2 h2⟩⟩
/-- Strings with the same bytes there. -/
theorem seg_same {s t : ByteArray} {i n d : Nat} (h : ∀ k, i ≤ k → k < n → bt s k = bt t (k + d)) (hin : i ≤ n) : seg s i n = seg t (i + d) (n + d) := by
  induction n with
  | zero =>
    obtain rfl : i = 0 := by omega
    rw [Nat.zero_add, seg_self, seg_self]
  | succ n ih =>
    by_cases hi : i = n + 1
    · subst hi
      rw [seg_self, seg_self]
    · rw [seg_snoc s i n (by omega), show n + 1 + d = (n + d) + 1 by omega, seg_snoc t (i + d) (n + d) (by omega), ih (fun k h1 h2 => h k h1 (by omega)) (by omega), h n (by omega) (by omega)]
theorem bt_extract (s : ByteArray) (a b k : Nat) (hk : a + k < b) (hb : b ≤ s.size) : bt (s.extract a b) k = bt s (a + k) := by
  have h1 : k < (s.extract a b).size := by rw [ByteArray.size_extract]; omega
  rw [bt_get _ _ h1, bt_get s (a + k) (by omega)]
  rw [ByteArray.getElem_extract h1]
/-! ### What the statements reckon -/
theorem seg_rev {s t : ByteArray} (hst : t.size = s.size) (h : ∀ k, k < s.size → bt t k = bt s (s.size - 1 - k)) : ∀ i n, i ≤ n → n ≤ s.size → seg t (s.size - n) (s.size - i) = (seg s i n).reverse := by
  intro i n hin hn
  refine List.ext_getElem? fun k => ?_
  by_cases hk : k < n - i
  · unfold seg
    rw [List.getElem?_reverse (by simp; omega)]
    simp only [List.getElem?_map, List.getElem?_drop, List.length_map, List.length_drop, List.length_range]
    rw [List.getElem?_range (by omega), List.getElem?_range (by omega)]
    simp only [Option.map_some]
    rw [h _ (by omega)]
    congr 2
    omega
  · rw [List.getElem?_eq_none (by rw [seg_len]; omega), List.getElem?_eq_none (by rw [List.length_reverse, seg_len]; omega)]
end Go.Proofs.YtpboaadjbkaidaaDoor

namespace Go.Proofs.YtpboaadjbkaidaaDoor
set_option maxRecDepth 100000
open Go.Lib

/-- The words of the rest of a line, the bytes cur of the word under way read already. -/
def wordsA : List UInt8 → List UInt8 → List (List UInt8)
  | cur, [] => if cur = [] then [] else [cur]
  | cur, b :: l => if b = 32 then (if cur = [] then [] else [cur]) ++ wordsA [] l else wordsA (cur ++ [b]) l
def wordsL (l : List UInt8) : List (List UInt8) := wordsA [] l
theorem wordsA_pre : ∀ (p cur l : List UInt8), (∀ b ∈ p, b ≠ 32) → wordsA cur (p ++ l) = wordsA (cur ++ p) l
  | [], cur, l, _ => by simp
  | b :: p, cur, l, h => by
    rw [List.cons_append, wordsA, if_neg (h b (by simp)), wordsA_pre p (cur ++ [b]) l (fun x hx => h x (by simp [hx]))]
    simp
theorem wordsL_end (p : List UInt8) (h : ∀ b ∈ p, b ≠ 32) : wordsL p = if p = [] then [] else [p] := by
  have := wordsA_pre p [] [] h
  rw [List.append_nil, List.nil_append] at this
  unfold wordsL
  rw [this, wordsA]
theorem wordsL_sep (p l : List UInt8) (h : ∀ b ∈ p, b ≠ 32) : wordsL (p ++ 32 :: l) = (if p = [] then [] else [p]) ++ wordsL l := by
  unfold wordsL
  rw [wordsA_pre p [] (32 :: l) h, wordsA, if_pos rfl, List.nil_append]
theorem wordsL_ne (l : List UInt8) : ∀ w ∈ wordsL l, w ≠ [] := by
  have : ∀ (l cur : List UInt8), ∀ w ∈ wordsA cur l, w ≠ [] := by
    intro l
    induction l with
    | nil =>
      intro cur w hw
      rw [wordsA] at hw
      split at hw
      · simp at hw
      · simp at hw; subst hw; assumption
    | cons b l ih =>
      intro cur w hw
      rw [wordsA] at hw
      split at hw
      · rcases List.mem_append.1 hw with hw | hw
        · split at hw
          · simp at hw
          · simp at hw; subst hw; assumption
        · exact ih [] w hw
      · exact ih _ w hw
  exact this l []

/-- The lines of a text. -/
def linesL : List UInt8 → List (List UInt8)
  | [] => []
  | b :: l => if b = 10 then [] :: linesL l else match linesL l with
    | [] => [[b]]
    | x :: xs => (b :: x) :: xs
theorem linesL_end : ∀ (p : List UInt8), (∀ b ∈ p, b ≠ 10) → linesL p = if p = [] then [] else [p]
  | [], _ => rfl
  | b :: p, h => by
    rw [linesL, if_neg (h b (by simp)), linesL_end p (fun x hx => h x (by simp [hx]))]
    cases p <;> simp
theorem linesL_sep : ∀ (p l : List UInt8), (∀ b ∈ p, b ≠ 10) → linesL (p ++ 10 :: l) = p :: linesL l
  | [], l, _ => by rw [List.nil_append, linesL, if_pos rfl]
  | b :: p, l, h => by
    rw [List.cons_append, linesL, if_neg (h b (by simp)), linesL_sep p l (fun x hx => h x (by simp [hx]))]

/-- The first place of a byte. -/
theorem index_one_miss (c : UInt8) : ∀ l : List UInt8, (∀ b ∈ l, b ≠ c) → index l [c] = -1
  | [], _ => rfl
  | b :: l, h => by
    have hb : b ≠ c := h b (by simp)
    have ih := index_one_miss c l (fun x hx => h x (by simp [hx]))
    unfold index
    simp [List.isPrefixOf, hb.symm, ih]
theorem index_one_hit (c : UInt8) : ∀ p l : List UInt8, (∀ b ∈ p, b ≠ c) → index (p ++ c :: l) [c] = p.length
  | [], l, _ => by
    unfold index
    simp [List.isPrefixOf]
  | b :: p, l, h => by
    have hb : b ≠ c := h b (by simp)
    have ih := index_one_hit c p l (fun x hx => h x (by simp [hx]))
    rw [List.cons_append]
    unfold index
    simp [List.isPrefixOf, hb.symm, ih]
theorem parted (c : UInt8) : ∀ l : List UInt8, (∀ b ∈ l, b ≠ c) ∨ ∃ p r, l = p ++ c :: r ∧ ∀ b ∈ p, b ≠ c
  | [] => .inl (by simp)
  | b :: l => by
    by_cases hb : b = c
    · exact .inr ⟨[], l, by rw [hb]; rfl, by simp⟩
    · rcases parted c l with h | ⟨p, r, rfl, h⟩
      · refine .inl fun x hx => ?_
        rcases List.mem_cons.1 hx with rfl | hx
        · exact hb
        · exact h x hx
      · refine .inr ⟨b :: p, r, rfl, fun x hx => ?_⟩
        rcases List.mem_cons.1 hx with rfl | hx
        · exact hb
        · exact h x hx
/-- Cut at a line's end: the first line and the rest. -/
theorem cut_lines (l : List UInt8) (h : l ≠ []) : linesL l = (cut l [10]).1 :: linesL (cut l [10]).2.1 := by
  rcases parted 10 l with hm | ⟨p, r, rfl, hm⟩
  · unfold cut
    rw [index_one_miss 10 l hm, if_neg (by decide), linesL_end l hm, if_neg h]
    rfl
  · unfold cut
    rw [index_one_hit 10 p r hm, if_pos (by omega), linesL_sep p r hm]
    simp
theorem cut_len (l : List UInt8) (h : l ≠ []) : (cut l [10]).2.1.length < l.length := by
  have h0 : 0 < l.length := List.length_pos_iff.2 h
  rcases parted 10 l with hm | ⟨p, r, rfl, hm⟩
  · unfold cut
    rw [index_one_miss 10 l hm, if_neg (by decide)]
    simpa using h0
  · unfold cut
    rw [index_one_hit 10 p r hm, if_pos (by omega)]
    simp
    omega
theorem cut_fst (l : List UInt8) : (cut l [10]).1.length ≤ l.length := by
  unfold cut
  split
  · simp; omega
  · exact Nat.le_refl _
/-- The pieces between spaces, without the empty ones, are the words. -/
theorem split_words : ∀ (k : Nat) (l : List UInt8), l.count 32 = k → (splitK [32] 0 k l).filter (fun x => x ≠ []) = wordsL l
  | 0, l, h => by
    have hm : ∀ b ∈ l, b ≠ 32 := fun b hb e => by
      subst e
      exact absurd (List.count_pos_iff.2 hb) (by omega)
    rw [splitK, wordsL_end l hm]
    by_cases he : l = []
    · subst he; simp
    · rw [if_neg he, List.filter_cons_of_pos (by simpa using he)]; rfl
  | k + 1, l, h => by
    rcases parted 32 l with hm | ⟨p, r, rfl, hm⟩
    · have : l.count 32 = 0 := List.count_eq_zero.2 (fun hb => hm 32 hb rfl)
      omega
    · have hp : p.count 32 = 0 := List.count_eq_zero.2 (fun hb => hm 32 hb rfl)
      rw [splitK, index_one_hit 32 p r hm, if_neg (by simp), wordsL_sep p r hm]
      have hr : r.count 32 = k := by
        rw [List.count_append, hp] at h
        simp at h
        omega
      have e1 : ((p.length : Int)).toNat + 0 = p.length := by simp
      have e2 : ((p.length : Int)).toNat + [(32 : UInt8)].length = p.length + 1 := by simp
      rw [e1, e2, List.take_left, show (p ++ 32 :: r).drop (p.length + 1) = r by rw [List.drop_append, List.drop_eq_nil_of_le (by omega), show p.length + 1 - p.length = 1 by omega]; rfl]
      by_cases he : p = []
      · subst he
        rw [if_pos rfl, List.filter_cons_of_neg (by simp), split_words k r hr]
        rfl
      · rw [if_neg he, List.filter_cons_of_pos (by simpa using he), split_words k r hr]
        rfl

end Go.Proofs.YtpboaadjbkaidaaDoor

namespace Go.Proofs.YtpboaadjbkaidaaDoor
set_option maxRecDepth 100000
open Go.RowKit

/-- A rule. -/
structure Ru where
  br : Bool
  bf : List At
  af : List At
/-- A table. -/
structure Tb where
  nm : ByteArray
  pa : ByteArray
  rs : List Ru

def ofL (l : List UInt8) : ByteArray := ⟨l.toArray⟩
theorem ofL_list (l : List UInt8) : (ofL l).data.toList = l := by simp [ofL]
theorem ofL_of (s : ByteArray) : ofL s.data.toList = s := by cases s; simp [ofL]

/-- What a word says of one side of a rule. -/
def sideF (w : List UInt8) : List At × Int := if w = [45] then ([], 0) else ((parseF (ofL w)).1, (parseF (ofL w)).2.2)
def wTable : List UInt8 := [116, 97, 98, 108, 101]
def wBreak : List UInt8 := [98, 114, 101, 97, 107]
def wKeep : List UInt8 := [107, 101, 101, 112]
/-- The tables with a rule more in the last one. -/
def addLast : List Tb → Ru → List Tb
  | [], _ => []
  | [t], r => [⟨t.nm, t.pa, t.rs ++ [r]⟩]
  | t :: u :: ts, r => t :: addLast (u :: ts) r
def tableF (ts : List Tb) (w : List (List UInt8)) : List Tb × Int :=
  if w.length ≠ 2 ∧ w.length ≠ 3 then ([], 2)
  else if nameL (w.getD 1 []) = false ∨ (w.length = 3 ∧ nameL (w.getD 2 []) = false) then ([], 4)
  else if ts.any (fun t => t.nm.data.toList == w.getD 1 []) = true then ([], 5)
  else if 16 ≤ ts.length then ([], 3)
  else (ts ++ [⟨ofL (w.getD 1 []), if w.length = 3 then ofL (w.getD 2 []) else ofL [], []⟩], 0)
def ruleF (ts : List Tb) (w : List (List UInt8)) : List Tb × Int :=
  if w.length ≠ 3 then ([], 2)
  else if ts = [] then ([], 8)
  else if (sideF (w.getD 1 [])).2 ≠ 0 then ([], (sideF (w.getD 1 [])).2)
  else if (sideF (w.getD 2 [])).2 ≠ 0 then ([], (sideF (w.getD 2 [])).2)
  else if 32 ≤ ((ts.getLast?.map (·.rs)).getD []).length then ([], 3)
  else (addLast ts ⟨w.getD 0 [] == wBreak, (sideF (w.getD 1 [])).1, (sideF (w.getD 2 [])).1⟩, 0)
def lineF (ts : List Tb) (w : List (List UInt8)) : List Tb × Int :=
  if w.getD 0 [] = wTable then tableF ts w
  else if w.getD 0 [] = wBreak ∨ w.getD 0 [] = wKeep then ruleF ts w
  else ([], 2)
/-- A line that says nothing. -/
def idle (w : List (List UInt8)) : Bool := match w with
  | [] => true
  | x :: _ => x.head? == some 35
def linesF : List (List UInt8) → Nat → List Tb → List Tb × Nat × Int
  | [], _, ts => (ts, 0, 0)
  | s :: rest, n, ts =>
    if idle (wordsL s) = true then linesF rest (n + 1) ts
    else if (lineF ts (wordsL s)).2 ≠ 0 then ([], n + 1, (lineF ts (wordsL s)).2)
    else linesF rest (n + 1) (lineF ts (wordsL s)).1
def rulesF (s : ByteArray) : List Tb × Nat × Int := if 65536 < s.size then ([], 0, 3) else linesF (linesL s.data.toList) 0 []

/-- Whether there is a break. -/
def decideF : List Ru → ByteArray → Nat → Bool
  | [], _, _ => false
  | r :: rs, s, k => if (suffixF r.bf (s.extract 0 k) && prefixF r.af (s.extract k s.size)) = true then r.br else decideF rs s k
def breaksF (rs : List Ru) (s : ByteArray) : List Int := if 1024 < s.size then [] else ((List.range s.size).filter fun k => decide (0 < k) && decideF rs s k).map fun (k : Nat) => (k : Int)

def knownT : ByteArray := ⟨#[116, 97, 98, 108, 101, 32, 101, 110, 10, 107, 101, 101, 112, 32, 77, 114, 92, 46, 32, 92, 115, 10, 98, 114, 101, 97, 107, 32, 91, 46, 33, 63, 93, 32, 92, 115, 10]⟩
def knownS : ByteArray := ⟨#[77, 114, 46, 32, 88, 32, 99, 97, 109, 101, 46, 32, 72, 101, 32, 108, 101, 102, 116, 46]⟩
theorem known_len : (rulesF knownT).1.length = 1 ∧ (rulesF knownT).2.1 = 0 ∧ (rulesF knownT).2.2 = 0 := by decide +kernel
theorem known_breaks : breaksF (((rulesF knownT).1.map (·.rs)).headD []) knownS = [11] := by decide +kernel

end Go.Proofs.YtpboaadjbkaidaaDoor

namespace Go.Proofs.YtpboaadjbkaidaaDoor
set_option maxRecDepth 100000
open Go.RowKit

theorem extract_size (s : ByteArray) (a b : Nat) (hab : a ≤ b) (hb : b ≤ s.size) : (s.extract a b).size = b - a := by
  rw [ByteArray.size_extract]
  omega
theorem ends_suf (p : List At) (s : ByteArray) (i : Nat) (h : i ≤ s.size) : reachF s p allF i = suffixF p (s.extract 0 i) := by
  have hz := extract_size s 0 i (Nat.zero_le _) h
  rw [Nat.sub_zero] at hz
  rw [Bool.eq_iff_iff, reach_lang, suffix_lang, hz]
  have e : ∀ j, j ≤ i → seg (s.extract 0 i) j i = seg s j i := fun j hj => by
    have := seg_same (s := s.extract 0 i) (t := s) (i := j) (n := i) (d := 0) (fun k h1 h2 => by rw [bt_extract s 0 i k (by omega) h, Nat.zero_add, Nat.add_zero]) hj
    simpa using this
  constructor
  · rintro ⟨j, hj, _, hl⟩
    exact ⟨j, hj, by rw [e j hj]; exact hl⟩
  · rintro ⟨j, hj, hl⟩
    exact ⟨j, hj, rfl, by rw [← e j hj]; exact hl⟩
theorem ends_pre (p : List At) {s t : ByteArray} (hst : t.size = s.size) (h : ∀ k, k < s.size → bt t k = bt s (s.size - 1 - k)) (k : Nat) (hk : k ≤ s.size) : reachF t p.reverse allF (s.size - k) = prefixF p (s.extract k s.size) := by
  have hz := extract_size s k s.size hk (Nat.le_refl _)
  rw [Bool.eq_iff_iff, reach_lang, prefix_lang, hz]
  have e : ∀ n, n ≤ s.size - k → seg (s.extract k s.size) 0 n = seg s k (k + n) := fun n hn => by
    have := seg_same (s := s.extract k s.size) (t := s) (i := 0) (n := n) (d := k) (fun j _ h2 => by rw [bt_extract s k s.size j (by omega) (Nat.le_refl _), Nat.add_comm]) (Nat.zero_le _)
    rw [this, Nat.zero_add, Nat.add_comm n k]
  constructor
  · rintro ⟨j, hj, _, hl⟩
    refine ⟨s.size - k - j, by omega, ?_⟩
    rw [e _ (by omega), show k + (s.size - k - j) = s.size - j by omega, ← lang_rev, ← seg_rev hst h k (s.size - j) (by omega) (by omega), show s.size - (s.size - j) = j by omega]
    exact hl
  · rintro ⟨n, hn, hl⟩
    refine ⟨s.size - k - n, by omega, rfl, ?_⟩
    have := seg_rev hst h k (k + n) (by omega) (by omega)
    rw [show s.size - (k + n) = s.size - k - n by omega] at this
    rw [this, lang_rev, ← e n hn]
    exact hl
def applyF (r : Ru) (s : ByteArray) (k : Nat) : Bool := suffixF r.bf (s.extract 0 k) && prefixF r.af (s.extract k s.size)
def foundF (rs : List Ru) (s : ByteArray) (k : Nat) : Bool := rs.any fun r => applyF r s k
theorem decide_cons (r : Ru) (rs : List Ru) (s : ByteArray) (k : Nat) : decideF (r :: rs) s k = if applyF r s k = true then r.br else decideF rs s k := rfl
theorem decide_none : ∀ (rs : List Ru) (s : ByteArray) (k : Nat), foundF rs s k = false → decideF rs s k = false
  | [], _, _, _ => rfl
  | r :: rs, s, k, h => by
    unfold foundF at h
    rw [List.any_cons, Bool.or_eq_false_iff] at h
    rw [decide_cons, if_neg (by rw [h.1]; exact Bool.false_ne_true)]
    exact decide_none rs s k h.2
theorem decide_append : ∀ (rs qs : List Ru) (s : ByteArray) (k : Nat), decideF (rs ++ qs) s k = if foundF rs s k = true then decideF rs s k else decideF qs s k
  | [], qs, s, k => rfl
  | r :: rs, qs, s, k => by
    rw [List.cons_append, decide_cons, decide_cons]
    have e : foundF (r :: rs) s k = (applyF r s k || foundF rs s k) := rfl
    by_cases h : applyF r s k = true
    · rw [if_pos h, if_pos h, if_pos (by rw [e, h]; rfl)]
    · rw [if_neg h, if_neg h, decide_append rs qs s k, e, Bool.not_eq_true] at *
      rw [h, Bool.false_or]
theorem decide_snoc (rs : List Ru) (r : Ru) (s : ByteArray) (k : Nat) : decideF (rs ++ [r]) s k = if foundF rs s k = true then decideF rs s k else (applyF r s k && r.br) := by
  rw [decide_append]
  congr 1
  rw [decide_cons]
  cases applyF r s k <;> rfl
theorem found_snoc (rs : List Ru) (r : Ru) (s : ByteArray) (k : Nat) : foundF (rs ++ [r]) s k = (foundF rs s k || applyF r s k) := by
  unfold foundF
  rw [List.any_append]
  simp

/-- The places below k with a break. -/
def uptoN (f : Nat → Bool) (k : Nat) : List Int := ((List.range k).filter f).map fun (n : Nat) => (n : Int)
theorem uptoN_succ (f : Nat → Bool) (k : Nat) : uptoN f (k + 1) = uptoN f k ++ if f k = true then [(k : Int)] else [] := by
  unfold uptoN
  rw [List.range_succ, List.filter_append, List.map_append]
  congr 1
  by_cases h : f k = true
  · rw [if_pos h, List.filter_cons_of_pos h]; rfl
  · rw [if_neg h, List.filter_cons_of_neg h]; rfl
theorem uptoN_congr {f g : Nat → Bool} : ∀ {k : Nat}, (∀ i, i < k → f i = g i) → uptoN f k = uptoN g k
  | 0, _ => rfl
  | k + 1, h => by rw [uptoN_succ, uptoN_succ, uptoN_congr (fun i hi => h i (by omega)), h k (by omega)]
def inB (rs : List Ru) (s : ByteArray) (k : Nat) : Bool := decide (0 < k) && decideF rs s k
theorem breaks_upto (rs : List Ru) (s : ByteArray) (h : s.size ≤ 1024) : breaksF rs s = uptoN (inB rs s) s.size := by
  unfold breaksF
  rw [if_neg (by omega)]
  rfl
/-- The row of Bools that the program makes. -/
def rowB (rs : List Ru) (s : ByteArray) (k : Nat) : Bool := decide (0 < k ∧ k < s.size) && decideF rs s k
theorem breaks_row (rs : List Ru) (s : ByteArray) (h : s.size ≤ 1024) : uptoN (rowB rs s) (s.size + 1) = breaksF rs s := by
  rw [uptoN_succ, if_neg (by unfold rowB; simp), List.append_nil, breaks_upto rs s h]
  refine uptoN_congr fun i hi => ?_
  unfold rowB inB
  congr 1
  rw [decide_eq_decide]
  omega

end Go.Proofs.YtpboaadjbkaidaaDoor

namespace Go.Proofs.YtpboaadjbkaidaaDoor
set_option maxRecDepth 100000

theorem cut_app {α : Type} (l1 l2 : List α) (a p q : Nat) : ((l1 ++ l2).take (q - a)).drop (p - a) = (l1.take (q - a)).drop (p - a) ++ (l2.take (q - (a + l1.length))).drop (p - (a + l1.length)) := by
  rw [List.take_append, List.drop_append, List.length_take]
  congr 1
  rw [show q - a - l1.length = q - (a + l1.length) by omega]
  by_cases h : q - a < l1.length
  · rw [show q - (a + l1.length) = 0 by omega]
    simp
  · rw [show p - a - min (q - a) l1.length = p - (a + l1.length) by omega]
theorem posI_pc (x : Tk) (a p q : Nat) : posI (pcI x a p q) = ((psI x).take (q - a)).drop (p - a) := by
  unfold pcI
  by_cases hx : x.k = 1
  · rw [if_neg (by omega)]
    have e : psI x = List.replicate x.t.size (true, false) := by unfold psI; rw [if_pos hx]
    rw [e, List.take_replicate, List.drop_replicate]
    by_cases h : max p a - a < min q (a + x.t.size) - a
    · rw [if_pos h, posI_one]
      unfold psI
      rw [if_pos rfl]
      show List.replicate (x.t.extract _ _).size _ = _
      rw [extract_size x.t _ _ (by omega) (by omega)]
      congr 1
      omega
    · rw [if_neg h, show min (q - a) x.t.size - (p - a) = 0 by omega]
      rfl
  · rw [if_pos hx]
    obtain ⟨c, hc⟩ : ∃ c, psI x = [c] := by
      unfold psI
      rw [if_neg hx]
      split
      · exact ⟨_, rfl⟩
      · split <;> exact ⟨_, rfl⟩
    by_cases h : p ≤ a ∧ a < q
    · rw [if_pos h, posI_one, hc, show q - a = (q - a - 1) + 1 by omega, show p - a = 0 by omega]
      simp
    · rw [if_neg h, hc]
      by_cases h2 : a < q
      · rw [show p - a = (p - a - 1) + 1 by omega, show q - a = (q - a - 1) + 1 by omega]
        simp [posI]
      · rw [show q - a = 0 by omega]
        simp [posI]
theorem posI_sl (p q : Nat) : ∀ (f : List Tk) (a : Nat), posI (slI f a p q) = ((posI f).take (q - a)).drop (p - a)
  | [], a => by simp [slI, posI]
  | x :: f, a => by
    rw [slI, posI_app, posI_pc, posI_sl p q f, show x :: f = [x] ++ f from rfl, posI_app [x] f, posI_one, cut_app, psI_len]
theorem pcI_wd (x : Tk) (a p q : Nat) : ∀ y ∈ pcI x a p q, 1 ≤ wdI y := by
  unfold pcI
  intro y hy
  by_cases hx : x.k = 1
  · rw [if_neg (by omega)] at hy
    split at hy
    · rename_i h
      rw [List.mem_singleton.1 hy]
      unfold wdI
      rw [if_pos rfl]
      show 1 ≤ (x.t.extract _ _).size
      rw [extract_size x.t _ _ (by omega) (by omega)]
      omega
    · simp at hy
  · rw [if_pos hx] at hy
    split at hy
    · rw [List.mem_singleton.1 hy]
      unfold wdI
      rw [if_neg hx]
      exact Nat.le_refl _
    · simp at hy
theorem slI_wd (p q : Nat) : ∀ (f : List Tk) (a : Nat), ∀ y ∈ slI f a p q, 1 ≤ wdI y
  | [], _, y, hy => by simp [slI] at hy
  | x :: f, a, y, hy => by
    rw [slI] at hy
    rcases List.mem_append.1 hy with h | h
    · exact pcI_wd x a p q y h
    · exact slI_wd p q f _ y h
end Go.Proofs.YtpboaadjbkaidaaDoor

namespace Go.Proofs.YtpboaadjbkaidaaDoor
set_option maxRecDepth 100000

theorem cntP_cons (x : Bool × Bool) (ps : List (Bool × Bool)) : cntP (x :: ps) = (if x.1 = true then 1 else 0) + cntP ps := by
  unfold cntP
  rw [List.filter_cons]
  split
  · rw [List.length_cons]; omega
  · omega
end Go.Proofs.YtpboaadjbkaidaaDoor

namespace Go.Proofs.YtpboaadjbkaidaaDoor
set_option maxRecDepth 100000

theorem placeP_text (m o : Nat) (ps : List (Bool × Bool)) (h : m ≤ o) : placeP (List.replicate m (true, false) ++ ps) o = m + placeP ps (o - m) := by
  induction m generalizing o with
  | zero => simp
  | succ m ih =>
    obtain ⟨o', rfl⟩ : ∃ o', o = o' + 1 := ⟨o - 1, by omega⟩
    rw [List.replicate_succ, List.cons_append, placeP, if_pos rfl, ih o' (by omega), Nat.add_sub_add_right]
    omega
theorem placeP_in (m o : Nat) (ps : List (Bool × Bool)) (h : o < m) (h0 : 0 < o) : placeP (List.replicate m (true, false) ++ ps) o = o := by
  obtain ⟨d, rfl⟩ : ∃ d, m = o + (d + 1) := ⟨m - o - 1, by omega⟩
  rw [← List.replicate_append_replicate, List.append_assoc, placeP_text o o _ (Nat.le_refl _), Nat.sub_self, List.replicate_succ, List.cons_append, placeP, clP]
  simp
theorem psI_one (x : Tk) (h : x.k ≠ 1) : psI x = [(decide (x.k = 5), decide (x.k = 3))] := by
  unfold psI
  rw [if_neg h]
  by_cases h5 : x.k = 5
  · rw [if_pos h5, h5]; rfl
  · rw [if_neg h5]
    by_cases h3 : x.k = 3
    · rw [if_pos h3, h3]; rfl
    · rw [if_neg h3, decide_eq_false h5, decide_eq_false h3]
theorem placeP_slot (x : Tk) (h : x.k = 5) (o : Nat) (ps : List (Bool × Bool)) : placeP (psI x ++ ps) (o + 1) = placeP ps o + 1 := by
  rw [psI_one x (by omega), List.singleton_append, placeP, h]
  rfl
theorem placeP_tag (x : Tk) (h1 : x.k ≠ 1) (h5 : x.k ≠ 5) (o : Nat) (ps : List (Bool × Bool)) : placeP (psI x ++ ps) (o + 1) = placeP ps (o + 1) + 1 := by
  rw [psI_one x h1, List.singleton_append, placeP, decide_eq_false h5]
  rfl
theorem clP_close (x : Tk) (h : x.k = 3) (ps : List (Bool × Bool)) : clP (psI x ++ ps) = clP ps + 1 := by
  rw [psI_one x (by omega), List.singleton_append, clP, h]
  rfl
theorem clP_other (x : Tk) (h3 : x.k ≠ 3) (hw : 1 ≤ wdI x) (ps : List (Bool × Bool)) : clP (psI x ++ ps) = 0 := by
  by_cases h1 : x.k = 1
  · unfold wdI at hw
    rw [if_pos h1] at hw
    unfold psI
    rw [if_pos h1]
    obtain ⟨d, hd⟩ : ∃ d, x.t.size = d + 1 := ⟨x.t.size - 1, by omega⟩
    rw [hd, List.replicate_succ, List.cons_append, clP]
    simp
  · rw [psI_one x h1, List.singleton_append, clP, decide_eq_false h3]
    simp
theorem posI_drop (f : List Tk) (k : Nat) (h : k < f.length) : posI (f.drop k) = psI f[k] ++ posI (f.drop (k + 1)) := by
  rw [List.drop_eq_getElem_cons h, show f[k] :: f.drop (k + 1) = [f[k]] ++ f.drop (k + 1) from rfl, posI_app, posI_one]
theorem normal_wd : ∀ (g : List Tk), Normal g → ∀ x ∈ g, 1 ≤ wdI x
  | [], _, x, hx => by simp at hx
  | y :: r, h, x, hx => by
    rcases List.mem_cons.1 hx with rfl | hx
    · unfold wdI
      split
      · rename_i h1
        have := (h.1 h1).1
        omega
      · exact Nat.le_refl _
    · exact normal_wd r h.2 x hx

end Go.Proofs.YtpboaadjbkaidaaDoor

namespace Go.Proofs.YtpboaadjbkaidaaDoor
set_option maxRecDepth 100000

def spcB (c : UInt8) : Bool := decide (clsN (c.toNat : Int) = 2)
/-- The positions of an item: is it a plain byte that is no space, is it a space. -/
def sqI (x : Tk) : List (Bool × Bool) := if x.k = 1 then x.t.data.toList.map (fun c => (!spcB c, spcB c)) else if x.k = 5 then [(true, false)] else [(false, false)]
def sqF (f : List Tk) : List (Bool × Bool) := f.flatMap sqI
/-- From x on: behind the spaces; and before y: ahead of the spaces. -/
def frI (R : List (Bool × Bool)) (x : Nat) : Nat := x + ((R.drop x).takeWhile (·.2)).length
def bkI (R : List (Bool × Bool)) (y : Nat) : Nat := y - ((R.take y).reverse.takeWhile (·.2)).length
def sgF (R : List (Bool × Bool)) (p q : Nat) : List (Nat × Nat) := if ((R.take q).drop p).any (·.1) = true then [(frI R p, bkI R q)] else []
def rngF (R : List (Bool × Bool)) : Nat → List Nat → List (Nat × Nat)
  | _, [] => []
  | p, q :: cs => sgF R p q ++ rngF R q cs

theorem sqF_app (f g : List Tk) : sqF (f ++ g) = sqF f ++ sqF g := by simp [sqF]
theorem sqF_one (x : Tk) : sqF [x] = sqI x := by simp [sqF]
theorem sqI_len (x : Tk) : (sqI x).length = wdI x := by
  unfold sqI wdI
  split
  · rw [List.length_map]
    simp
  · split <;> rfl
theorem sqF_len : ∀ f : List Tk, (sqF f).length = lenI f
  | [] => rfl
  | x :: f => by
    rw [show x :: f = [x] ++ f from rfl, sqF_app, sqF_one, List.length_append, sqI_len, sqF_len f, lenI_app]
    simp [lenI]
theorem sqI_pc (x : Tk) (a p q : Nat) : sqF (pcI x a p q) = ((sqI x).take (q - a)).drop (p - a) := by
  unfold pcI
  by_cases hx : x.k = 1
  · rw [if_neg (by omega)]
    have e : sqI x = x.t.data.toList.map (fun c => (!spcB c, spcB c)) := by unfold sqI; rw [if_pos hx]
    have hl : x.t.data.toList.length = x.t.size := by simp
    rw [e]
    by_cases h : max p a - a < min q (a + x.t.size) - a
    · rw [if_pos h, sqF_one]
      unfold sqI
      rw [if_pos rfl]
      show (x.t.extract (max p a - a) (min q (a + x.t.size) - a)).data.toList.map _ = _
      rw [ByteArray.data_extract, Array.toList_extract, ← List.map_take, ← List.map_drop]
      congr 1
      rw [List.extract_eq_take_drop, List.drop_take]
      rw [show p - a = max p a - a by omega]
      by_cases h2 : q ≤ a + x.t.size
      · rw [show min q (a + x.t.size) - a = q - a by omega]
      · rw [show min q (a + x.t.size) - a = x.t.size by omega]
        rw [List.take_of_length_le (by rw [List.length_drop, hl]; omega), List.take_of_length_le (by rw [List.length_drop, hl]; omega)]
    · rw [if_neg h]
      rw [List.drop_eq_nil_of_le (by rw [List.length_take, List.length_map, hl]; omega)]
      rfl
  · rw [if_pos hx]
    obtain ⟨c, hc⟩ : ∃ c, sqI x = [c] := by
      unfold sqI
      rw [if_neg hx]
      split <;> exact ⟨_, rfl⟩
    by_cases h : p ≤ a ∧ a < q
    · rw [if_pos h, sqF_one, hc, show q - a = (q - a - 1) + 1 by omega, show p - a = 0 by omega]
      simp
    · rw [if_neg h, hc]
      by_cases h2 : a < q
      · rw [show p - a = (p - a - 1) + 1 by omega, show q - a = (q - a - 1) + 1 by omega]
        simp [sqF]
      · rw [show q - a = 0 by omega]
        simp [sqF]
theorem sqF_sl (p q : Nat) : ∀ (f : List Tk) (a : Nat), sqF (slI f a p q) = ((sqF f).take (q - a)).drop (p - a)
  | [], a => by simp [slI, sqF]
  | x :: f, a => by
    rw [slI, sqF_app, sqI_pc, sqF_sl p q f, show x :: f = [x] ++ f from rfl, sqF_app [x] f, sqF_one, cut_app, sqI_len]
theorem byI_any (x : Tk) : (byI x).any (fun c => !spcB c) = (sqI x).any (·.1) := by
  unfold byI sqI
  split
  · rw [List.any_map]
    rfl
  · split
    · rfl
    · rfl
theorem plI_any : ∀ f : List Tk, (plI f).any (fun c => !spcB c) = (sqF f).any (·.1)
  | [] => rfl
  | x :: f => by
    rw [show x :: f = [x] ++ f from rfl, plI_app, sqF_app, List.any_append, List.any_append, plI_any f, sqF_one, ← byI_any]
    congr 2
    simp [plI]
/-- A trimmed text is not empty exactly if it has a byte that is no space. -/
theorem trim_any_iff {l : List UInt8} {x y : Nat} (h : IsTrim l x y) : x < y ↔ l.any (fun c => !spcB c) = true := by
  constructor
  · intro hxy
    rcases h with ⟨rfl, rfl, _⟩ | ⟨h1, h2, h3, _⟩
    · omega
    · have hx : x < l.length := by omega
      have h9 := h3 _ (List.getElem?_eq_getElem hx)
      rw [List.any_eq_true]
      refine ⟨l[x], List.getElem_mem hx, ?_⟩
      unfold spcB
      simp [h9]
  · intro ha
    rw [List.any_eq_true] at ha
    obtain ⟨c, hc, h9⟩ := ha
    unfold spcB at h9
    rcases h with ⟨rfl, rfl, h3⟩ | ⟨h1, _⟩
    · exfalso
      obtain ⟨j, hj⟩ := List.mem_iff_getElem?.1 hc
      have := h3 j c hj
      simp [this] at h9
    · exact h1
theorem sqI_ex (x : Tk) : ∀ c ∈ sqI x, c.1 = true → c.2 = false := by
  unfold sqI
  intro c hc h
  split at hc
  · obtain ⟨b, _, rfl⟩ := List.mem_map.1 hc
    simpa using h
  · split at hc
    · rw [List.mem_singleton.1 hc]
    · rw [List.mem_singleton.1 hc]
theorem sqF_ex (f : List Tk) : ∀ c ∈ sqF f, c.1 = true → c.2 = false := by
  intro c hc
  obtain ⟨x, _, hx⟩ := List.mem_flatMap.1 hc
  exact sqI_ex x c hx

/-! ### The ends of a segment -/
theorem frI_step (R : List (Bool × Bool)) (x : Nat) (h : x < R.length) (hs : R[x].2 = true) : frI R x = frI R (x + 1) := by
  unfold frI
  rw [List.drop_eq_getElem_cons h, List.takeWhile_cons, if_pos hs, List.length_cons]
  omega
theorem frI_stop (R : List (Bool × Bool)) (x : Nat) (h : x < R.length) (hs : R[x].2 = false) : frI R x = x := by
  unfold frI
  rw [List.drop_eq_getElem_cons h, List.takeWhile_cons, if_neg (by simp [hs])]
  rfl
theorem bkI_step (R : List (Bool × Bool)) (y : Nat) (h : y < R.length) (hs : R[y].2 = true) : bkI R (y + 1) = bkI R y := by
  unfold bkI
  rw [List.take_succ_eq_append_getElem h, List.reverse_append, List.reverse_singleton, List.singleton_append, List.takeWhile_cons, if_pos hs, List.length_cons]
  omega
theorem bkI_stop (R : List (Bool × Bool)) (y : Nat) (h : y < R.length) (hs : R[y].2 = false) : bkI R (y + 1) = y + 1 := by
  unfold bkI
  rw [List.take_succ_eq_append_getElem h, List.reverse_append, List.reverse_singleton, List.singleton_append, List.takeWhile_cons, if_neg (by simp [hs])]
  rfl
theorem frI_ge (R : List (Bool × Bool)) (x : Nat) : x ≤ frI R x := by unfold frI; omega
theorem bkI_le (R : List (Bool × Bool)) (y : Nat) : bkI R y ≤ y := by unfold bkI; omega
/-- Up to a position that is no space. -/
theorem frI_le (R : List (Bool × Bool)) (x j : Nat) (hx : x ≤ j) (hj : j < R.length) (hs : R[j].2 = false) : frI R x ≤ j := by
  obtain ⟨d, rfl⟩ : ∃ d, j = x + d := ⟨j - x, by omega⟩
  induction d generalizing x with
  | zero => rw [Nat.add_zero] at *; rw [frI_stop R x hj (by simpa using hs)]; exact Nat.le_refl _
  | succ d ih =>
    have hxl : x < R.length := by omega
    by_cases h2 : R[x].2 = true
    · rw [frI_step R x hxl h2]
      have e : x + 1 + d = x + (d + 1) := by omega
      have := ih (x + 1) (by omega) (by omega) (by simp only [e]; exact hs)
      omega
    · rw [frI_stop R x hxl (by simpa using h2)]
      omega
theorem bkI_gt (R : List (Bool × Bool)) (y j : Nat) (hy : j < y) (hyl : y ≤ R.length) (hs : (R[j]'(by omega)).2 = false) : j < bkI R y := by
  obtain ⟨d, rfl⟩ : ∃ d, y = j + 1 + d := ⟨y - j - 1, by omega⟩
  induction d with
  | zero => rw [Nat.add_zero, bkI_stop R j (by omega) hs]; omega
  | succ d ih =>
    have hxl : j + 1 + d < R.length := by omega
    by_cases h2 : R[j + 1 + d].2 = true
    · rw [show j + 1 + (d + 1) = j + 1 + d + 1 by omega, bkI_step R _ hxl h2]
      exact ih (by omega) (by omega) hs
    · rw [show j + 1 + (d + 1) = j + 1 + d + 1 by omega, bkI_stop R _ hxl (by simpa using h2)]
      omega
theorem frI_none (R : List (Bool × Bool)) (x j : Nat) (h1 : x ≤ j) (h2 : j < frI R x) : ∃ h : j < R.length, R[j].2 = true := by
  by_cases hj : j < R.length
  · refine ⟨hj, ?_⟩
    cases h : R[j].2 with
    | true => rfl
    | false => have := frI_le R x j h1 hj h; omega
  · exfalso
    unfold frI at h2
    have := (List.takeWhile_sublist (fun c : Bool × Bool => c.2) (l := R.drop x)).length_le
    rw [List.length_drop] at this
    omega
theorem bkI_none (R : List (Bool × Bool)) (y j : Nat) (hyl : y ≤ R.length) (h1 : bkI R y ≤ j) (h2 : j < y) : (R[j]'(by omega)).2 = true := by
  cases h : (R[j]'(by omega)).2 with
  | true => rfl
  | false => have := bkI_gt R y j h2 hyl h; omega
/-- Where a cut has a byte that is no space. -/
theorem any_pos (R : List (Bool × Bool)) (p q : Nat) (hR : ∀ c ∈ R, c.1 = true → c.2 = false) (ha : ((R.take q).drop p).any (·.1) = true) : ∃ j, ∃ h : j < R.length, p ≤ j ∧ j < q ∧ R[j].1 = true ∧ R[j].2 = false := by
  rw [List.any_eq_true] at ha
  obtain ⟨c, hc, h1⟩ := ha
  obtain ⟨i, hi⟩ := List.mem_iff_getElem?.1 hc
  rw [List.getElem?_drop, List.getElem?_take] at hi
  split at hi
  · obtain ⟨hl, hx⟩ := List.getElem?_eq_some_iff.1 hi
    refine ⟨p + i, hl, by omega, by assumption, by rw [hx]; exact h1, ?_⟩
    exact hR _ (List.getElem_mem hl) (by rw [hx]; exact h1)
  · cases hi
theorem pos_any (R : List (Bool × Bool)) (p q j : Nat) (hj : j < R.length) (h1 : p ≤ j) (h2 : j < q) (h3 : R[j].1 = true) : ((R.take q).drop p).any (·.1) = true := by
  rw [List.any_eq_true]
  refine ⟨R[j], ?_, h3⟩
  refine List.mem_iff_getElem?.2 ⟨j - p, ?_⟩
  rw [List.getElem?_drop, List.getElem?_take, if_pos (by omega), show p + (j - p) = j by omega]
  exact List.getElem?_eq_getElem hj
theorem frI_at (R : List (Bool × Bool)) (x j : Nat) (hx : x ≤ j) (hj : j < R.length) (hs : R[j].2 = false) : ∃ k, frI R x = k ∧ ∃ h : k < R.length, R[k].2 = false := by
  obtain ⟨d, rfl⟩ : ∃ d, j = x + d := ⟨j - x, by omega⟩
  induction d generalizing x with
  | zero => exact ⟨x, frI_stop R x (by omega) (by simpa using hs), by omega, by simpa using hs⟩
  | succ d ih =>
    have hxl : x < R.length := by omega
    by_cases h2 : R[x].2 = true
    · rw [frI_step R x hxl h2]
      have e : x + 1 + d = x + (d + 1) := by omega
      exact ih (x + 1) (by omega) (by omega) (by simp only [e]; exact hs)
    · exact ⟨x, frI_stop R x hxl (by simpa using h2), hxl, by simpa using h2⟩
theorem bkI_at (R : List (Bool × Bool)) (y j : Nat) (hy : j < y) (hyl : y ≤ R.length) (hs : (R[j]'(by omega)).2 = false) : ∃ k, bkI R y = k + 1 ∧ ∃ h : k < R.length, R[k].2 = false := by
  obtain ⟨d, rfl⟩ : ∃ d, y = j + 1 + d := ⟨y - j - 1, by omega⟩
  induction d with
  | zero => exact ⟨j, by rw [Nat.add_zero]; exact bkI_stop R j (by omega) hs, by omega, hs⟩
  | succ d ih =>
    have hxl : j + 1 + d < R.length := by omega
    by_cases h2 : R[j + 1 + d].2 = true
    · rw [show j + 1 + (d + 1) = j + 1 + d + 1 by omega, bkI_step R _ hxl h2]
      exact ih (by omega) (by omega) hs
    · exact ⟨j + 1 + d, by rw [show j + 1 + (d + 1) = j + 1 + d + 1 by omega]; exact bkI_stop R _ hxl (by simpa using h2), hxl, by simpa using h2⟩

/-! ### The cuts -/
def AscF : Nat → List Nat → Nat → Prop
  | p, [], n => p = n
  | p, c :: cs, n => p ≤ c ∧ AscF c cs n
theorem AscF.le : ∀ {cs : List Nat} {p n : Nat}, AscF p cs n → p ≤ n
  | [], _, _, h => Nat.le_of_eq h
  | c :: cs, p, n, h => Nat.le_trans h.1 (AscF.le h.2)
theorem AscF.at_ : ∀ {cs : List Nat} {p n : Nat} (k : Nat) (hk : k < cs.length), AscF p cs n → (p :: cs).getD k 0 ≤ cs[k] ∧ cs[k] ≤ n
  | c :: cs, p, n, 0, _, h => ⟨by simpa using h.1, by simpa using AscF.le h.2⟩
  | c :: cs, p, n, k + 1, hk, h => by
    have := AscF.at_ (cs := cs) (p := c) k (by simpa using hk) h.2
    simpa using this
theorem rngF_take (R : List (Bool × Bool)) : ∀ (cs : List Nat) (p k : Nat) (hk : k < cs.length), rngF R p (cs.take (k + 1)) = rngF R p (cs.take k) ++ sgF R ((p :: cs).getD k 0) cs[k]
  | c :: cs, p, 0, _ => by simp [rngF]
  | c :: cs, p, k + 1, hk => by
    have h := rngF_take R cs c k (by simpa using hk)
    rw [List.take_succ_cons, rngF, h, List.take_succ_cons, rngF, List.append_assoc]
    simp
theorem sgF_len (R : List (Bool × Bool)) (p q : Nat) : (sgF R p q).length ≤ 1 := by unfold sgF; split <;> simp
theorem rngF_len (R : List (Bool × Bool)) : ∀ (cs : List Nat) (p : Nat), (rngF R p cs).length ≤ cs.length
  | [], _ => Nat.le_refl _
  | c :: cs, p => by
    rw [rngF, List.length_append, List.length_cons]
    have := rngF_len R cs c
    have := sgF_len R p c
    omega
theorem clP_le : ∀ ps : List (Bool × Bool), clP ps ≤ ps.length
  | [] => Nat.le_refl _
  | x :: ps => by
    rw [clP, List.length_cons]
    have := clP_le ps
    split <;> omega
theorem placeP_le : ∀ (ps : List (Bool × Bool)) (o : Nat), placeP ps o ≤ ps.length
  | ps, 0 => by cases ps <;> exact clP_le _
  | [], _ + 1 => Nat.le_refl _
  | x :: ps, o + 1 => by
    rw [placeP, List.length_cons]
    have := placeP_le ps (if x.1 = true then o else o + 1)
    omega
theorem placeP_zero (ps : List (Bool × Bool)) : placeP ps 0 = clP ps := by cases ps <;> rfl
theorem clP_place : ∀ (ps : List (Bool × Bool)) (o : Nat), o ≤ cntP ps → clP ps ≤ placeP ps o
  | [], o, _ => by simp [clP]
  | x :: ps, 0, _ => by rw [placeP_zero]; exact Nat.le_refl _
  | x :: ps, o + 1, h => by
    rw [cntP_cons] at h
    rw [placeP, clP]
    split
    · by_cases hx : x.1 = true
      · rw [if_pos hx] at h ⊢
        have := clP_place ps o (by omega)
        omega
      · rw [if_neg hx] at h ⊢
        have := clP_place ps (o + 1) (by omega)
        omega
    · omega
theorem placeP_mono : ∀ (ps : List (Bool × Bool)) (a b : Nat), a ≤ b → b ≤ cntP ps → placeP ps a ≤ placeP ps b
  | ps, 0, b, _, hb => by rw [placeP_zero]; exact clP_place ps b hb
  | [], a + 1, b, h, hb => by simp [cntP] at hb; omega
  | x :: ps, a + 1, 0, h, _ => by omega
  | x :: ps, a + 1, b + 1, h, hb => by
    rw [cntP_cons] at hb
    rw [placeP, placeP]
    by_cases hx : x.1 = true
    · rw [if_pos hx] at hb
      rw [if_pos hx, if_pos hx]
      have := placeP_mono ps a b (by omega) (by omega)
      omega
    · rw [if_neg hx] at hb
      rw [if_neg hx, if_neg hx]
      have := placeP_mono ps (a + 1) (b + 1) (by omega) (by omega)
      omega
/-- The cuts of a fragment at the breaks bl. -/
def cutsF (f : List Tk) (bl : List Nat) : List Nat := bl.map (placeP (posI f)) ++ [lenI f]
theorem cuts_asc (f : List Tk) : ∀ (bl : List Nat) (a : Nat), (a :: bl).Pairwise (· ≤ ·) → (∀ b ∈ a :: bl, b ≤ (plI f).length) → AscF (placeP (posI f) a) (cutsF f bl) (lenI f)
  | [], a, _, _ => ⟨by have := placeP_le (posI f) a; rw [posI_len] at this; exact this, rfl⟩
  | b :: bl, a, h, hb => by
    refine ⟨?_, ?_⟩
    · refine placeP_mono _ _ _ ?_ ?_
      · exact (List.pairwise_cons.1 h).1 b (by simp)
      · rw [cntP_pos]; exact hb b (by simp)
    · exact cuts_asc f bl b (List.pairwise_cons.1 h).2 (fun c hc => hb c (by simp [hc]))
theorem AscF.zero {cs : List Nat} {p n : Nat} (h : AscF p cs n) (hc : cs ≠ []) : AscF 0 cs n := by
  cases cs with
  | nil => exact absurd rfl hc
  | cons c cs => exact ⟨Nat.zero_le _, h.2⟩

/-! ### What the segments cover -/
def CovF (R : List (Bool × Bool)) : Nat → List (Nat × Nat) → Prop
  | a0, [] => ∀ j, ∀ h : j < R.length, a0 ≤ j → R[j].1 = false
  | a0, r :: l => a0 ≤ r.1 ∧ r.1 < r.2 ∧ r.2 ≤ R.length ∧ (∀ j, ∀ h : j < R.length, a0 ≤ j → j < r.1 → R[j].1 = false) ∧ (∃ h : r.1 < R.length, R[r.1].2 = false) ∧ (∃ h : r.2 - 1 < R.length, R[r.2 - 1].2 = false) ∧ (∃ j, ∃ h : j < R.length, r.1 ≤ j ∧ j < r.2 ∧ R[j].1 = true) ∧ CovF R r.2 l
theorem rng_cov (R : List (Bool × Bool)) (hR : ∀ c ∈ R, c.1 = true → c.2 = false) : ∀ (cs : List Nat) (a0 p : Nat), AscF p cs R.length → a0 ≤ p → (∀ j, ∀ h : j < R.length, a0 ≤ j → j < p → R[j].1 = false) → CovF R a0 (rngF R p cs)
  | [], a0, p, hA, h0, hg => fun j h hj => hg j h hj (by have : p = R.length := hA; omega)
  | q :: cs, a0, p, hA, h0, hg => by
    have hq := hA.2.le
    have hpq := hA.1
    rw [rngF]
    unfold sgF
    by_cases ha : ((R.take q).drop p).any (·.1) = true
    · rw [if_pos ha, List.singleton_append]
      obtain ⟨j, hj, h1, h2, h3, h4⟩ := any_pos R p q hR ha
      have e1 := frI_ge R p
      have e2 := frI_le R p j h1 hj h4
      have e3 := bkI_gt R q j h2 hq h4
      have e4 := bkI_le R q
      refine ⟨by show a0 ≤ frI R p; omega, by show frI R p < bkI R q; omega, by show bkI R q ≤ _; omega, fun i hi i1 i2 => ?_, ?_, ?_, ⟨j, hj, e2, e3, h3⟩, ?_⟩
      · by_cases hip : i < p
        · exact hg i hi i1 hip
        · obtain ⟨_, hs⟩ := frI_none R p i (by omega) i2
          cases h9 : R[i].1 with
          | false => rfl
          | true => rw [hR _ (List.getElem_mem hi) h9] at hs; cases hs
      · obtain ⟨k, hk, hkl, hks⟩ := frI_at R p j h1 hj h4
        show ∃ h : frI R p < R.length, R[frI R p].2 = false
        rw [hk]
        exact ⟨hkl, hks⟩
      · obtain ⟨k, hk, hkl, hks⟩ := bkI_at R q j h2 hq h4
        show ∃ h : bkI R q - 1 < R.length, R[bkI R q - 1].2 = false
        rw [hk]
        exact ⟨hkl, hks⟩
      · refine rng_cov R hR cs (bkI R q) q hA.2 e4 (fun i hi i1 i2 => ?_)
        have hs := bkI_none R q i hq i1 i2
        cases h9 : R[i].1 with
        | false => rfl
        | true => rw [hR _ (List.getElem_mem hi) h9] at hs; cases hs
    · rw [if_neg ha, List.nil_append]
      refine rng_cov R hR cs a0 q hA.2 (by omega) (fun i hi i1 i2 => ?_)
      by_cases hip : i < p
      · exact hg i hi i1 hip
      · cases h9 : R[i].1 with
        | false => rfl
        | true => exact absurd (pos_any R p q i hi (by omega) i2 h9) ha
end Go.Proofs.YtpboaadjbkaidaaDoor

namespace Go.Proofs.YtpboaadjbkaidaaDoor
set_option maxRecDepth 100000

theorem all_any (l : List UInt8) : l.all spcB = !(l.any (fun c => !spcB c)) := by
  induction l with
  | nil => rfl
  | cons c l ih => rw [List.all_cons, List.any_cons, ih, Bool.not_or, Bool.not_not]
def edgeB (x : Tk) (b : Bool) : Bool := if x.k = 1 ∧ 0 < x.t.size then (if b = true then spcB (x.t.data.toList.headD 0) else spcB (x.t.data.toList.getLastD 0)) else false
theorem cov_cut (f : List Tk) (p q : Nat) : (plI (slI f 0 p q)).any (fun c => !spcB c) = (((sqF f).take q).drop p).any (·.1) := by
  rw [plI_any, sqF_sl]
  rfl
theorem cov_gap (f : List Tk) (p q : Nat) (h : ∀ j, ∀ h : j < (sqF f).length, p ≤ j → j < q → (sqF f)[j].1 = false) : (plI (slI f 0 p q)).all spcB = true := by
  rw [all_any, cov_cut]
  cases h9 : (((sqF f).take q).drop p).any (·.1) with
  | false => rfl
  | true =>
    obtain ⟨j, hj, h1, h2, h3, _⟩ := any_pos (sqF f) p q (sqF_ex f) h9
    rw [h j hj h1 h2] at h3
    cases h3
theorem cov_in (f : List Tk) (p q j : Nat) (hj : j < (sqF f).length) (h1 : p ≤ j) (h2 : j < q) (h3 : (sqF f)[j].1 = true) : (plI (slI f 0 p q)).all spcB = false := by
  rw [all_any, cov_cut, pos_any (sqF f) p q j hj h1 h2 h3]
  rfl
theorem cov_some (f : List Tk) (p q : Nat) (h : (plI (slI f 0 p q)).all spcB = false) : 0 < (slI f 0 p q).length := by
  cases h9 : slI f 0 p q with
  | nil => rw [h9] at h; simp [plI] at h
  | cons => simp
theorem sqI_ne (x : Tk) (h : 1 ≤ wdI x) : sqI x ≠ [] := fun e => by
  have := sqI_len x
  rw [e] at this
  simp at this
  omega
theorem sqI_head (x : Tk) (h : 1 ≤ wdI x) : edgeB x true = true → ((sqI x).headD (false, false)).2 = true := by
  unfold edgeB sqI
  intro he
  split at he
  · rename_i hx
    rw [if_pos hx.1]
    rw [if_pos rfl] at he
    cases hl : x.t.data.toList with
    | nil =>
      exfalso
      have : x.t.data.toList.length = x.t.size := by simp
      rw [hl] at this
      have := hx.2
      simp at *
      omega
    | cons c l =>
      rw [hl] at he
      simpa using he
  · cases he
theorem sqI_last (x : Tk) (h : 1 ≤ wdI x) : edgeB x false = true → ((sqI x).getLastD (false, false)).2 = true := by
  unfold edgeB sqI
  intro he
  split at he
  · rename_i hx
    rw [if_pos hx.1]
    rw [if_neg (by simp)] at he
    have hne : x.t.data.toList ≠ [] := fun hl => by
      have : x.t.data.toList.length = x.t.size := by simp
      rw [hl] at this
      have := hx.2
      simp at *
      omega
    rw [List.getLastD_eq_getLast?, List.getLast?_map]
    rw [List.getLastD_eq_getLast?, List.getLast?_eq_some_getLast hne] at he
    rw [List.getLast?_eq_some_getLast hne]
    simpa using he
  · cases he
theorem cov_first (f : List Tk) (p q : Nat) (hp : p < (sqF f).length) (hpq : p < q) (hs : (sqF f)[p].2 = false) (hl : 0 < (slI f 0 p q).length) : edgeB (slI f 0 p q)[0] true = false := by
  have hw := slI_wd p q f 0
  have e := sqF_sl p q f 0
  rw [Nat.sub_zero, Nat.sub_zero] at e
  have hd : (((sqF f).take q).drop p).head? = some (sqF f)[p] := by
    rw [List.head?_eq_getElem?, List.getElem?_drop, List.getElem?_take, if_pos (by omega)]
    exact List.getElem?_eq_getElem hp
  rw [← e] at hd
  cases hx : edgeB (slI f 0 p q)[0] true with
  | false => rfl
  | true =>
    exfalso
    have h1 := hw _ (List.getElem_mem hl)
    have h2 := sqI_head _ h1 hx
    have hne := sqI_ne _ h1
    generalize slI f 0 p q = l at hd hl h2 hne
    cases l with
    | nil => simp at hl
    | cons y l =>
      simp only [List.getElem_cons_zero] at h2 hne
      rw [show y :: l = [y] ++ l from rfl, sqF_app, sqF_one] at hd
      cases hr : sqI y with
      | nil => exact hne hr
      | cons c r =>
        rw [hr] at hd h2
        simp at hd h2
        rw [hd, hs] at h2
        cases h2
theorem cov_last (f : List Tk) (p q : Nat) (hp : q - 1 < (sqF f).length) (hpq : p < q) (hs : (sqF f)[q - 1].2 = false) (y : Tk) (hy : (slI f 0 p q)[(slI f 0 p q).length - 1]? = some y) : edgeB y false = false := by
  have hw := slI_wd p q f 0 y (List.mem_of_getElem? hy)
  have e := sqF_sl p q f 0
  rw [Nat.sub_zero, Nat.sub_zero] at e
  have hd : (((sqF f).take q).drop p).getLast? = some (sqF f)[q - 1] := by
    rw [List.getLast?_eq_getElem?, List.length_drop, List.length_take, List.getElem?_drop, List.getElem?_take, if_pos (by omega), show p + (min q (sqF f).length - p - 1) = q - 1 by omega]
    exact List.getElem?_eq_getElem hp
  rw [← e] at hd
  cases hx : edgeB y false with
  | false => rfl
  | true =>
    exfalso
    have h2 := sqI_last _ hw hx
    have hne := sqI_ne _ hw
    generalize slI f 0 p q = l at hd hy
    obtain ⟨hl, hy⟩ := List.getElem?_eq_some_iff.1 hy
    have hsp : l = l.take (l.length - 1) ++ [y] := by
      have := List.take_append_drop (l.length - 1) l
      rw [List.drop_eq_getElem_cons (by omega)] at this
      rw [List.drop_eq_nil_of_le (by omega), hy] at this
      exact this.symm
    rw [hsp, sqF_app, sqF_one, List.getLast?_append, List.getLast?_eq_some_getLast hne, Option.some_or] at hd
    rw [List.getLastD_eq_getLast?, List.getLast?_eq_some_getLast hne] at h2
    injection hd with hd
    simp only [Option.getD_some] at h2
    rw [hd, hs] at h2
    cases h2

end Go.Proofs.YtpboaadjbkaidaaDoor

namespace Go.Proofs.YtpboaadjbkaidaaDoor
set_option maxRecDepth 100000
open Go.RowKit

set_option maxHeartbeats 2000000 in
theorem rlength_any (f : List Tk) (v : Value) (w : World) (h1 : RdT w v f) (hl : lenI f ≤ 1000000000000000000) (hfl : f.length ≤ 1000000) :
    Calls Tryd.prog 34 #[v] w fun e w' => e = .returned (.int .i64 (lenI f : Nat)) ∧ w = w' := by
  obtain ⟨A, c, rfl, _, _⟩ := h1.shape
  have H1 := Lib.hid h1
  clear h1
  go_enter Tryd.func34, Tryd.ntmps34
  go_wp2_with fail
  obtain ⟨wo, HWO⟩ : ∃ wo, Hid (wo = w) := ⟨w, rfl⟩
  go_loopg [3, 4, 7] f.length (fun gk nv iv jv wr => ∃ k n : Nat, nv = .int .i64 n ∧ jv = .int .i64 k ∧ k ≤ f.length ∧ Hid (n = lenI (f.take k)) ∧ wr = w ∧ f.length - k ≤ gk)
  case atStart => exact ⟨0, 0, rfl, rfl, Nat.zero_le _, by show _ = _; rw [List.take_zero]; rfl, rfl, by omega⟩
  case round =>
    clear HWO
    obtain ⟨k, n, rfl, rfl, hk, HN, rfl, hgk⟩ := hrel
    by_cases hkl : k < f.length
    · have hki : (k : Int) < (f.length : Int) := by omega
      have hk0 : (0 : Int) ≤ (k : Int) := by omega
      obtain ⟨b, o, rfl, hbl, q1, q2, q3⟩ := RdT.at_ H1.out k hkl
      have hle := lenI_le f (k + 1)
      have hst := lenI_take f k hkl
      rw [hst, ← HN.out] at hle
      have HN2 : Hid (n + wdI f[k] = lenI (f.take (k + 1))) := by
        show _ = _
        rw [hst, ← HN.out]
      unfold wdI at HN2 hle
      clear hst
      generalize f[k] = x at q1 q2 q3 HN2 hle
      obtain ⟨xk, xt, xd⟩ := x
      simp only at q1 q2 q3 HN2 hle
      by_cases hx : xk = 1
      · subst hx
        simp only [if_true] at HN2 hle
        have hxs : xt.size ≤ 1000000000000000000 := by omega
        go_wp2_with fail
        go_roundg (f.length - (k + 1))
        case measure => omega
        case rel => exact ⟨k + 1, n + xt.size, rfl, rfl, by omega, HN2.out, rfl, by omega⟩
      · rw [if_neg hx] at HN2 hle
        have t1 : (xk == 1) = false := by simpa using hx
        go_wp2_with fail
        go_roundg (f.length - (k + 1))
        case measure => omega
        case rel => exact ⟨k + 1, n + 1, rfl, rfl, by omega, HN2.out, rfl, by omega⟩
    · obtain rfl : k = f.length := by omega
      have e : n = lenI f := by rw [HN.out, List.take_length]
      go_wp2_with fail
      go_ret
      exact ⟨by rw [← e]; rfl, rfl⟩

set_option maxHeartbeats 2000000 in
theorem rplain_any (f : List Tk) (v : Value) (w : World) (h1 : RdT w v f) (hl : lenI f ≤ 1000000000000000000) (hfl : f.length ≤ 1000000) :
    Calls Tryd.prog 36 #[v] w fun e w' => e = .returned (.string (plS f)) ∧ w = w' := by
  obtain ⟨A, c, rfl, _, _⟩ := h1.shape
  have H1 := Lib.hid h1
  clear h1
  go_enter Tryd.func36, Tryd.ntmps36
  go_wp2_with fail
  obtain ⟨wo, HWO⟩ : ∃ wo, Hid (wo = w) := ⟨w, rfl⟩
  go_loopg [3, 4, 7] f.length (fun gk sv iv jv wr => ∃ (k : Nat) (s : ByteArray), sv = .string s ∧ jv = .int .i64 k ∧ k ≤ f.length ∧ Hid (s = plS (f.take k)) ∧ wr = w ∧ f.length - k ≤ gk)
  case atStart => exact ⟨0, ⟨#[]⟩, rfl, rfl, Nat.zero_le _, by show _ = _; rw [List.take_zero]; rfl, rfl, by omega⟩
  case round =>
    clear HWO
    obtain ⟨k, s, rfl, rfl, hk, HS, rfl, hgk⟩ := hrel
    by_cases hkl : k < f.length
    · have hki : (k : Int) < (f.length : Int) := by omega
      have hk0 : (0 : Int) ≤ (k : Int) := by omega
      obtain ⟨b, o, rfl, hbl, q1, q2, q3⟩ := RdT.at_ H1.out k hkl
      have hss : s.size ≤ lenI (f.take k) := by
        rw [HS.out, plS_size]
        exact plI_len _
      have hle := lenI_le f (k + 1)
      rw [lenI_take f k hkl] at hle
      have hsl : s.size + wdI f[k] ≤ 1000000000000000000 := by omega
      unfold wdI at hsl
      clear hle hss
      have c1 := Lib.hid (plS_text f k hkl)
      have c5 := Lib.hid (plS_slot f k hkl)
      have c0 := Lib.hid (plS_none f k hkl)
      rw [← HS.out] at c1 c5 c0
      generalize f[k] = x at q1 q2 q3 hsl c1 c5 c0
      obtain ⟨xk, xt, xd⟩ := x
      simp only at q1 q2 q3 hsl c1 c5 c0
      by_cases hx : xk = 1
      · subst hx
        simp only [if_true] at hsl
        have hxs : xt.size ≤ 1000000000000000000 := by omega
        go_wp2_with fail
        go_roundg (f.length - (k + 1))
        case measure => omega
        case rel => exact ⟨k + 1, s ++ xt, rfl, rfl, by omega, c1.out (by first | trivial | rfl), rfl, by omega⟩
      · rw [if_neg hx] at hsl
        have t1 : (xk == 1) = false := by simpa using hx
        by_cases h5 : xk = 5
        · subst h5
          go_wp2_with fail
          go_roundg (f.length - (k + 1))
          case measure => omega
          case rel => exact ⟨k + 1, s ++ (⟨#[255]⟩ : ByteArray), rfl, rfl, by omega, c5.out (by first | trivial | rfl), rfl, by omega⟩
        · have t5 : (xk == 5) = false := by simpa using h5
          go_wp2_with fail
          go_roundg (f.length - (k + 1))
          case measure => omega
          case rel => exact ⟨k + 1, s, rfl, rfl, by omega, c0.out hx h5, rfl, by omega⟩
    · obtain rfl : k = f.length := by omega
      have e : s = plS f := by rw [HS.out, List.take_length]
      go_wp2_with fail
      go_ret
      exact ⟨by rw [← e]; rfl, rfl⟩

end Go.Proofs.YtpboaadjbkaidaaDoor

namespace Go.Proofs.YtpboaadjbkaidaaDoor
set_option maxRecDepth 100000
open Go.RowKit

section
variable {P : Program} {ops : Array Oper} {w : World} {Q : Act → Prop} {a : Act} {o : Oper} {rest : List Oper}
theorem ex_move (x : Operand) (v : Value) (ho : o.op = .move x) (hx : a.eval x = v) : (execOp a.eval o).run P w = .ok (.value v) w := by
  unfold execOp
  simp only [ho, hx]
  rfl
theorem ex_assign (x : Operand) (v : Value) (ho : o.op = .assign x) (hx : a.eval x = v) : (execOp a.eval o).run P w = .ok (.value v) w := by
  unfold execOp
  simp only [ho, hx]
  rfl
theorem ex_pick (c x y : Operand) (b : Bool) (vx vy : Value) (ho : o.op = .pick c x y) (hc : a.eval c = .bool b) (hx : a.eval x = vx) (hy : a.eval y = vy) : (execOp a.eval o).run P w = .ok (.value (if b = true then vx else vy)) w := by
  unfold execOp
  simp only [ho, hx, hy, hc]
  rfl
theorem ex_indexAddr (t : TypeId) (x i : Operand) (vx vi v : Value) (ho : o.op = .indexAddr t x i) (hx : a.eval x = vx) (hi : a.eval i = vi) (hr : (Instr.indexAt t vx vi).run P w = .ok v w) : (execOp a.eval o).run P w = .ok (.value v) w := by
  unfold execOp
  simp only [ho, hx, hi, Sem.run_bind, hr, Result.andThen_ok, Sem.run_pure]
theorem ex_fieldAddr (t : TypeId) (x : Operand) (f : Nat) (vx v : Value) (ho : o.op = .fieldAddr t x f) (hx : a.eval x = vx) (hr : (Instr.fieldAt t vx f).run P w = .ok v w) : (execOp a.eval o).run P w = .ok (.value v) w := by
  unfold execOp
  simp only [ho, hx, Sem.run_bind, hr, Result.andThen_ok, Sem.run_pure]
theorem ex_load (t : TypeId) (x : Operand) (vx v : Value) (ho : o.op = .load t x) (hx : a.eval x = vx) (hr : (Instr.loadAt t vx).run P w = .ok v w) : (execOp a.eval o).run P w = .ok (.value v) w := by
  unfold execOp
  simp only [ho, hx, Sem.run_bind, hr, Result.andThen_ok, Sem.run_pure]
theorem ex_index (t : TypeId) (x i : Operand) (vx vi v : Value) (ho : o.op = .index t x i) (hx : a.eval x = vx) (hi : a.eval i = vi) (hr : (Instr.index t vx vi).run P w = .ok v w) : (execOp a.eval o).run P w = .ok (.value v) w := by
  unfold execOp
  simp only [ho, hx, hi, Sem.run_bind, hr, Result.andThen_ok, Sem.run_pure]
theorem ex_binOp (op : BinOp) (t t2 : TypeId) (x y : Operand) (vx vy v : Value) (ho : o.op = .binOp op t x y t2) (hx : a.eval x = vx) (hy : a.eval y = vy) (hr : (do eqGuard op t x y vx vy; Go.binOp op t vx vy : Sem Value).run P w = .ok v w) : (execOp a.eval o).run P w = .ok (.value v) w := by
  unfold execOp
  simp only [ho, hx, hy]
  rw [Sem.run_bind, hr]
  rfl
/-- A region that draws its order, what has come up written out. -/
theorem wp_region_at {QE : Exit → Act → World → Prop} {id : Nat} (n : Nat) (l0 : Array Bool) (hn : ops.size = n) (hl : Array.replicate n false = l0) (hm : P.follows .mixedOrders = true)
    (h : wpAny P .any ops QE n l0 a w.drew) : (Code.region id ops true).wp P QE a w := by
  subst hn hl
  exact wp_region_any hm h
theorem at_drop {i : Nat} {oi : Oper} {rs : List Oper} (h : ops.toList.drop i = oi :: rs) : ops[i]? = some oi := by
  rw [← Array.getElem?_toList]
  have := congrArg (fun l => l[0]?) h
  simpa using this
/-- wpAny_take, the slot written out. -/
theorem wpAny_at {md : Region.Mode} {QE : Exit → Act → World → Prop} {i : Nat} {oi : Oper} (d : Option Tmp) {v : Value} {fuel : Nat} {listed : Array Bool} {rs : List Oper} (hi0 : ops.toList.drop i = oi :: rs) (hd : oi.dst = d)
    (hs : Region.noSelect ops = true) (hf : Region.free md ops listed i = true) (hr : (Region.ready md ops listed).contains i = true)
    (hQ : ∀ c a w, QE (.panic c) (a.put oi.dst v) w → QE (.panic c) a w) (hw : Region.wanted oi (yielded ops a.tmps) = true) (hv : ∀ w, (execOp a.eval oi).run P w = .ok (.value v) w)
    (h : wpAny P md ops QE fuel (listed.setIfInBounds i true) (a.put d v) w) : wpAny P md ops QE (fuel + 1) listed a w := by
  subst hd
  have hi := at_drop hi0
  exact wpAny_take hi hs hf hr hQ (Or.inl ⟨hw, hv⟩) h
/-- One operation alone may come up. -/
theorem wpAny_only {md : Region.Mode} {QE : Exit → Act → World → Prop} (i : Nat) {oi : Oper} {fuel : Nat} {listed : Array Bool} {rs : List Oper} (hr : Region.ready md ops listed = [i]) (hi : ops.toList.drop i = oi :: rs) (hw : Region.wanted oi (yielded ops a.tmps) = true)
    (h : Oper.wp P oi a w (wpAny P md ops QE fuel (listed.setIfInBounds i true)) QE) : wpAny P md ops QE (fuel + 1) listed a w :=
  wpAny_ready hr (by simp) (AllReady.cons (at_drop hi) (fun K hK => by rw [if_pos hw]; exact Oper.wp_mono hK h) AllReady.nil)
theorem wpAny_two {md : Region.Mode} {QE : Exit → Act → World → Prop} (i j : Nat) {oi oj : Oper} {fuel : Nat} {listed : Array Bool} {rs rs2 : List Oper} (hr : Region.ready md ops listed = [i, j]) (hi : ops.toList.drop i = oi :: rs) (hj : ops.toList.drop j = oj :: rs2) (hwi : Region.wanted oi (yielded ops a.tmps) = true) (hwj : Region.wanted oj (yielded ops a.tmps) = true)
    (h1 : Oper.wp P oi a w (wpAny P md ops QE fuel (listed.setIfInBounds i true)) QE) (h2 : Oper.wp P oj a w (wpAny P md ops QE fuel (listed.setIfInBounds j true)) QE) : wpAny P md ops QE (fuel + 1) listed a w :=
  wpAny_ready hr (by simp) (AllReady.cons (at_drop hi) (fun K hK => by rw [if_pos hwi]; exact Oper.wp_mono hK h1) (AllReady.cons (at_drop hj) (fun K hK => by rw [if_pos hwj]; exact Oper.wp_mono hK h2) AllReady.nil))
/-- One load alone may come up. (No goal 'Oper.wp ..' may stand open: elaborating against it runs the operation and what follows.) -/
theorem wpAny_load {md : Region.Mode} {QE : Exit → Act → World → Prop} (i : Nat) (d : Option Tmp) {oi : Oper} {fuel : Nat} {listed : Array Bool} {rs : List Oper} (hr : Region.ready md ops listed = [i]) (hi : ops.toList.drop i = oi :: rs) (hd : oi.dst = d) (hw : Region.wanted oi (yielded ops a.tmps) = true)
    (ty : TypeId) (x : Operand) (ho : oi.op = .load ty x) (b o : Nat) (hx : a.eval x = .pointer (some ⟨b, o, none⟩)) (cs : List Value) (dd : TypeDesc) (hc : w.rangeAt b o cs) (hu : P.underlying ty = some dd) (hdd : dd.isRow = true) (hsz : (P.info? ty).map (·.size) = some cs.length)
    (h : wpAny P md ops QE fuel (listed.setIfInBounds i true) (a.put d (.agg cs.toArray)) w) : wpAny P md ops QE (fuel + 1) listed a w := by
  subst hd
  exact wpAny_only i hr hi hw (wp_load_mid ty x ho b o hx cs dd hc hu hdd hsz h)
theorem wpAny_loads {md : Region.Mode} {QE : Exit → Act → World → Prop} (i j : Nat) (d e : Option Tmp) {oi oj : Oper} {fuel : Nat} {listed : Array Bool} {rs rs2 : List Oper} (hr : Region.ready md ops listed = [i, j]) (hi : ops.toList.drop i = oi :: rs) (hj : ops.toList.drop j = oj :: rs2) (hd : oi.dst = d) (he : oj.dst = e)
    (hwi : Region.wanted oi (yielded ops a.tmps) = true) (hwj : Region.wanted oj (yielded ops a.tmps) = true)
    (ty : TypeId) (x : Operand) (ho : oi.op = .load ty x) (b o : Nat) (hx : a.eval x = .pointer (some ⟨b, o, none⟩)) (cs : List Value) (dd : TypeDesc) (hc : w.rangeAt b o cs) (hu : P.underlying ty = some dd) (hdd : dd.isRow = true) (hsz : (P.info? ty).map (·.size) = some cs.length)
    (ty2 : TypeId) (x2 : Operand) (ho2 : oj.op = .load ty2 x2) (b2 o2 : Nat) (hx2 : a.eval x2 = .pointer (some ⟨b2, o2, none⟩)) (cs2 : List Value) (dd2 : TypeDesc) (hc2 : w.rangeAt b2 o2 cs2) (hu2 : P.underlying ty2 = some dd2) (hdd2 : dd2.isRow = true) (hsz2 : (P.info? ty2).map (·.size) = some cs2.length)
    (h1 : wpAny P md ops QE fuel (listed.setIfInBounds i true) (a.put d (.agg cs.toArray)) w) (h2 : wpAny P md ops QE fuel (listed.setIfInBounds j true) (a.put e (.agg cs2.toArray)) w) : wpAny P md ops QE (fuel + 1) listed a w := by
  subst hd he
  exact wpAny_two i j hr hi hj hwi hwj (wp_load_mid ty x ho b o hx cs dd hc hu hdd hsz h1) (wp_load_mid ty2 x2 ho2 b2 o2 hx2 cs2 dd2 hc2 hu2 hdd2 hsz2 h2)
theorem wpAny_store {md : Region.Mode} {QE : Exit → Act → World → Prop} (i : Nat) {oi : Oper} {fuel : Nat} {listed : Array Bool} {rs : List Oper} (hr : Region.ready md ops listed = [i]) (hi : ops.toList.drop i = oi :: rs) (hd : oi.dst = none) (hw : Region.wanted oi (yielded ops a.tmps) = true)
    (ty : TypeId) (x y : Operand) (ho : oi.op = .store ty x y) (b o : Nat) (cells : List Value) (hx : a.eval x = .pointer (some ⟨b, o, none⟩)) (hy : a.eval y = .agg cells.toArray) (ht : w.there b o cells.length) (hsz : (P.info? ty).map (·.size) = some cells.length) (h1 : cells.toArray.all (·.oneCell') = true)
    (h : wpAny P md ops QE fuel (listed.setIfInBounds i true) a (w.setCells b o cells)) : wpAny P md ops QE (fuel + 1) listed a w := by
  refine wpAny_only i hr hi hw (wp_store_mid ty x y ho b o cells.toArray hx hy (by simpa using ht) (by simpa using hsz) h1 ?_)
  rw [hd]
  exact h
/-- A reading operation that alone may come up: its value in this world. -/
theorem wpAny_val {md : Region.Mode} {QE : Exit → Act → World → Prop} (i : Nat) (d : Option Tmp) (v : Value) {oi : Oper} {fuel : Nat} {listed : Array Bool} {rs : List Oper} (hr : Region.ready md ops listed = [i]) (hi : ops.toList.drop i = oi :: rs) (hd : oi.dst = d) (hw : Region.wanted oi (yielded ops a.tmps) = true)
    (hv : (execOp a.eval oi).run P w = .ok (.value v) w) (h : wpAny P md ops QE fuel (listed.setIfInBounds i true) (a.put d v) w) : wpAny P md ops QE (fuel + 1) listed a w := by
  subst hd
  refine wpAny_only i hr hi hw ?_
  show Oper.upon _ _ _ _ _ _
  rw [hv]
  exact h
/-- An operation whose guard does not hold. -/
theorem wpAny_skip {md : Region.Mode} {QE : Exit → Act → World → Prop} (i : Nat) (d : Option Tmp) {oi : Oper} {fuel : Nat} {listed : Array Bool} {rs : List Oper} (hi0 : ops.toList.drop i = oi :: rs) (hd : oi.dst = d)
    (hs : Region.noSelect ops = true) (hf : Region.free md ops listed i = true) (hr : (Region.ready md ops listed).contains i = true)
    (hQ : ∀ c a w, QE (.panic c) (a.put oi.dst undef) w → QE (.panic c) a w) (hw : Region.wanted oi (yielded ops a.tmps) = false)
    (h : wpAny P md ops QE fuel (listed.setIfInBounds i true) (a.put d undef) w) : wpAny P md ops QE (fuel + 1) listed a w := by
  subst hd
  exact wpAny_take (at_drop hi0) hs hf hr hQ (Or.inr ⟨hw, rfl⟩) h
/-- A call that alone may come up. -/
theorem wpAny_call {md : Region.Mode} {QE : Exit → Act → World → Prop} (i : Nat) (d : Option Tmp) {oi : Oper} {fuel : Nat} {listed : Array Bool} {rs : List Oper} (hr : Region.ready md ops listed = [i]) (hi : ops.toList.drop i = oi :: rs) (hd : oi.dst = d) (hw : Region.wanted oi (yielded ops a.tmps) = true)
    (f : FuncId) (vs : Array Value) (hrun : (execOp a.eval oi).run P w = .ok (.enter f vs) w) {Post : Ending → World → Prop} (hc : Calls P f vs w Post)
    (h : ∀ e w', Post e w' → ∃ v, e = .returned v ∧ wpAny P md ops QE fuel (listed.setIfInBounds i true) (a.put d v) w') : wpAny P md ops QE (fuel + 1) listed a w := by
  subst hd
  refine wpAny_only i hr hi hw ?_
  show Oper.upon _ _ _ _ _ _
  rw [hrun, Oper.upon_enter]
  refine hc.mono fun e w' hp => ?_
  obtain ⟨v, rfl, hv⟩ := h e w' hp
  exact hv
end

end Go.Proofs.YtpboaadjbkaidaaDoor

namespace Go.Proofs.YtpboaadjbkaidaaDoor
set_option maxRecDepth 100000
open Go.RowKit

section
variable {P : Program} {ops : Array Oper} {w : World} {a : Act}
theorem wp_of_val {o : Oper} {v : Value} {K : Act → World → Prop} {QE : Exit → Act → World → Prop} (hv : (execOp a.eval o).run P w = .ok (.value v) w) (h : K (a.put o.dst v) w) : Oper.wp P o a w K QE := by
  show Oper.upon _ _ _ _ _ _
  rw [hv]
  exact h
theorem wp_of_call {o : Oper} {f : FuncId} {vs : Array Value} {K : Act → World → Prop} {QE : Exit → Act → World → Prop} (hrun : (execOp a.eval o).run P w = .ok (.enter f vs) w) {Post : Ending → World → Prop} (hc : Calls P f vs w Post)
    (h : ∀ e w', Post e w' → ∃ v, e = .returned v ∧ K (a.put o.dst v) w') : Oper.wp P o a w K QE := by
  show Oper.upon _ _ _ _ _ _
  rw [hrun, Oper.upon_enter]
  refine hc.mono fun e w' hp => ?_
  obtain ⟨v, rfl, hv⟩ := h e w' hp
  exact hv
theorem wpAny_vals {md : Region.Mode} {QE : Exit → Act → World → Prop} (i j : Nat) (d e : Option Tmp) (v u : Value) {oi oj : Oper} {fuel : Nat} {listed : Array Bool} {rs rs2 : List Oper} (hr : Region.ready md ops listed = [i, j]) (hi : ops.toList.drop i = oi :: rs) (hj : ops.toList.drop j = oj :: rs2) (hd : oi.dst = d) (he : oj.dst = e)
    (hwi : Region.wanted oi (yielded ops a.tmps) = true) (hwj : Region.wanted oj (yielded ops a.tmps) = true) (hv : (execOp a.eval oi).run P w = .ok (.value v) w) (hu : (execOp a.eval oj).run P w = .ok (.value u) w)
    (h1 : wpAny P md ops QE fuel (listed.setIfInBounds i true) (a.put d v) w) (h2 : wpAny P md ops QE fuel (listed.setIfInBounds j true) (a.put e u) w) : wpAny P md ops QE (fuel + 1) listed a w := by
  subst hd he
  exact wpAny_two i j hr hi hj hwi hwj (wp_of_val hv h1) (wp_of_val hu h2)
/-- A call and a reading operation. -/
theorem wpAny_callval {md : Region.Mode} {QE : Exit → Act → World → Prop} (i j : Nat) (d e : Option Tmp) (u : Value) {oi oj : Oper} {fuel : Nat} {listed : Array Bool} {rs rs2 : List Oper} (hr : Region.ready md ops listed = [i, j]) (hi : ops.toList.drop i = oi :: rs) (hj : ops.toList.drop j = oj :: rs2) (hd : oi.dst = d) (he : oj.dst = e)
    (hwi : Region.wanted oi (yielded ops a.tmps) = true) (hwj : Region.wanted oj (yielded ops a.tmps) = true) (f : FuncId) (vs : Array Value) (hrun : (execOp a.eval oi).run P w = .ok (.enter f vs) w) {Post : Ending → World → Prop} (hc : Calls P f vs w Post) (hu : (execOp a.eval oj).run P w = .ok (.value u) w)
    (h1 : ∀ e' w', Post e' w' → ∃ v, e' = .returned v ∧ wpAny P md ops QE fuel (listed.setIfInBounds i true) (a.put d v) w') (h2 : wpAny P md ops QE fuel (listed.setIfInBounds j true) (a.put e u) w) : wpAny P md ops QE (fuel + 1) listed a w := by
  subst hd he
  exact wpAny_two i j hr hi hj hwi hwj (wp_of_call hrun hc h1) (wp_of_val hu h2)
end

end Go.Proofs.YtpboaadjbkaidaaDoor

namespace Go.Proofs.YtpboaadjbkaidaaDoor
set_option maxRecDepth 100000
open Go.RowKit

section
variable {P : Program} {ops : Array Oper} {w : World} {a : Act} {o : Oper}
theorem ex_slice (t : TypeId) (x : Operand) (lo hi : Option Operand) (vx v : Value) (vlo vhi : Option Value) (ho : o.op = .slice t x lo hi none) (hx : a.eval x = vx) (hl : lo.map a.eval = vlo) (hh : hi.map a.eval = vhi) (hr : (Instr.sliceAt t vx vlo vhi none).run P w = .ok v w) : (execOp a.eval o).run P w = .ok (.value v) w := by
  unfold execOp
  simp only [ho, hx, hl, hh, Option.map_none, Sem.run_bind, hr, Result.andThen_ok, Sem.run_pure]
end

end Go.Proofs.YtpboaadjbkaidaaDoor

namespace Go.Proofs.YtpboaadjbkaidaaDoor
set_option maxRecDepth 100000
open Go.RowKit

section
variable {P : Program} {ops : Array Oper} {w : World} {a : Act} {o : Oper}
theorem wp_of_valw {o : Oper} {v : Value} {w2 : World} {K : Act → World → Prop} {QE : Exit → Act → World → Prop} (hv : (execOp a.eval o).run P w = .ok (.value v) w2) (h : K (a.put o.dst v) w2) : Oper.wp P o a w K QE := by
  show Oper.upon _ _ _ _ _ _
  rw [hv]
  exact h
theorem wpAny_valw {md : Region.Mode} {QE : Exit → Act → World → Prop} (i : Nat) (d : Option Tmp) (v : Value) (w2 : World) {oi : Oper} {fuel : Nat} {listed : Array Bool} {rs : List Oper} (hr : Region.ready md ops listed = [i]) (hi : ops.toList.drop i = oi :: rs) (hd : oi.dst = d) (hw : Region.wanted oi (yielded ops a.tmps) = true)
    (hv : (execOp a.eval oi).run P w = .ok (.value v) w2) (h : wpAny P md ops QE fuel (listed.setIfInBounds i true) (a.put d v) w2) : wpAny P md ops QE (fuel + 1) listed a w := by
  subst hd
  exact wpAny_only i hr hi hw (wp_of_valw hv h)
end

end Go.Proofs.YtpboaadjbkaidaaDoor

namespace Go.Proofs.YtpboaadjbkaidaaDoor
set_option maxRecDepth 100000
open Go.RowKit

theorem wp_appR {o : Oper} {a : Act} {K : Act → World → Prop} {Q : Exit → Act → World → Prop} {w : World} {α : Type} (hgd : o.guard = none) (s x : Operand) (t e : TypeId)
    (ho : o.op = .call { callee := .builtin .append, args := #[s, x], argTypes := #[t, t] })
    (ht : Tryd.prog.underlying t = some (.slice e)) (z : Value) (f : α → List Value) (size bytes : Nat) (hinfo : (Tryd.prog.info? e).map (fun i => (i.zero, i.size, i.bytes)) = some (some z, size, bytes)) (hzs : z.cells.size = size) (hsz : 0 < size)
    (hm : ∀ x, (f x).length = size) (h1 : ∀ x, ∀ u ∈ f x, u.oneCell' = true)
    (base : Nat) (v : Value) (l : List α) (hs : a.eval s = v) (hown : w.ownsRow base e size v l.length (l.flatMap f))
    (v2 : Value) (l2 : List α) (hx : a.eval x = v2) (hrd : RdE f size w v2 l2)
    (hbytes : (l.length + l2.length) * bytes ≤ 140737488355328) (hb1 : 1 ≤ bytes) (hbase : base ≤ w.heap.size)
    (h : ∀ v' w', w'.ownsRow base e size v' (l ++ l2).length ((l ++ l2).flatMap f) → (∀ B W, B ≤ base → Below B W w → Below B W w') → w.grownBy w' v.ownBlock → (v'.ownBlock = v.ownBlock ∨ v'.ownBlock = some w.heap.size) → K (a.put o.dst v') w') :
    Oper.wp Tryd.prog o a w K Q := by
  have hh := step_appE (P := Tryd.prog) (ops := #[]) (E := True) (Q := Q) hgd s x t e ho ht z f size bytes hinfo hzs hsz hm h1 base v l hs hown v2 l2 hx hrd hbytes hb1 hbase h
  rw [if_pos (by unfold Region.wanted; rw [hgd])] at hh
  exact hh
theorem rdE_oneR {α : Type} (f : α → List Value) (m : Nat) (_hm : ∀ x, (f x).length = m) (w : World) (g : Nat) (hg : w.heap.size = g) (x : α) (t : TypeId) : RdE f m (w.alloc (.cells (f x).toArray t)) (.slice (some ⟨g, 0, none⟩) 1 1) [x] := by
  subst hg
  refine ⟨some ⟨w.heap.size, 0, none⟩, 1, rfl, by simp, (fun h => by cases h), fun _ => ⟨w.heap.size, 0, rfl, by simp, fun i y j u hi hj => ?_⟩⟩
  have hi0 : i = 0 := by
    have := (List.getElem?_eq_some_iff.1 hi).1
    simpa using this
  subst hi0
  simp at hi
  subst hi
  have := cells_new w (f x) t j u hj
  rw [Addr.add_lit] at this
  simpa using this
theorem bx3 {w : World} {b : Nat} {v0 v1 v2 : Value} {t : TypeId} (h : w.heap[b]? = some (.cells #[v0, v1, v2] t)) :
    w.cell? ⟨b, 0, none⟩ = some v0 ∧ w.cell? ⟨b, 1, none⟩ = some v1 ∧ w.cell? ⟨b, 2, none⟩ = some v2 ∧ w.frozen? ⟨b, 0, none⟩ = false ∧ w.frozen? ⟨b, 1, none⟩ = false ∧ w.frozen? ⟨b, 2, none⟩ = false :=
  ⟨by rw [cell_of_row _ _ 0 _ _ _ h]; rfl, by rw [cell_of_row _ _ 1 _ _ _ h]; rfl, by rw [cell_of_row _ _ 2 _ _ _ h]; rfl, frozen_of_row w b 0 _ _ h, frozen_of_row w b 1 _ _ h, frozen_of_row w b 2 _ _ h⟩
theorem set_rw1 {w : World} {b : Nat} {cs : Array Value} {t : TypeId} (h : w.heap[b]? = some (.cells cs t)) (j : Nat) (u : Value) : (w.setCell ⟨b, j, none⟩ u).heap[b]? = some (.cells (cs.setIfInBounds j u) t) :=
  heap_setCell_same w b j _ _ _ h
theorem ld_strR {w : World} {b o : Nat} {x : ByteArray} (h : w.cell? ⟨b, o, none⟩ = some (.string x)) : (Instr.loadAt 9 (.pointer (some ⟨b, o, none⟩))).run Tryd.prog w = .ok (.string x) w := by
  go_simp

end Go.Proofs.YtpboaadjbkaidaaDoor

namespace Go.Proofs.YtpboaadjbkaidaaDoor
set_option maxRecDepth 100000
open Go.RowKit

theorem item_sz : (Tryd.prog.info? 84).map (·.size) = some 3 := by kernel_rfl
theorem ld_int0 {w : World} {b o : Nat} {x : Int} (h : w.cell? ⟨b, o, none⟩ = some (.int .i64 x)) : (Instr.loadAt 3 (.pointer (some ⟨b, o, none⟩))).run Tryd.prog w = .ok (.int .i64 x) w := by
  go_simp
theorem ex_item {o : Oper} {a : Act} {w : World} (x y z : Operand) (k : Int) (s : ByteArray) (d : Int) (ho : o.op = .build 84 #[(0, x), (1, y), (2, z)]) (hx : a.eval x = .int .i64 k) (hy : a.eval y = .string s) (hz : a.eval z = .int .i64 d) : (execOp a.eval o).run Tryd.prog w = .ok (.value (.agg #[.int .i64 k, .string s, .int .i64 d])) w := by
  generalize a.eval = ρ at hx hy hz ⊢
  unfold execOp
  simp only [ho]
  go_simp
theorem ex_boxI {o : Oper} {a : Act} {w : World} (x : Operand) (k : Int) (s : ByteArray) (d : Int) (ho : o.op = .buildSlice 57 1 #[(0, x)]) (hx : a.eval x = .agg #[.int .i64 k, .string s, .int .i64 d]) : (execOp a.eval o).run Tryd.prog w = .ok (.value (.slice (some ⟨w.heap.size, 0, none⟩) 1 1)) (w.alloc (.cells #[.int .i64 k, .string s, .int .i64 d] 84)) := by
  generalize a.eval = ρ at hx ⊢
  unfold execOp
  simp only [ho]
  go_simp
def SlRet (w : World) (l : List Tk) (e : Ending) (w' : World) : Prop := ∃ v, e = .returned (.tuple #[v, .bool true]) ∧ OwnE 84 tkC 3 w' w.heap.size v l ∧ Below w.heap.size w w'

set_option maxRecDepth 100000 in
set_option maxHeartbeats 8000000 in
theorem rslice_any (f : List Tk) (v : Value) (p q : Nat) (w : World) (h1 : RdT w v f) (hl : lenI f ≤ 1000000000000000000) (hfl : f.length ≤ 1000000) (hpq : p ≤ q) (hq : q ≤ lenI f) :
    Calls Tryd.prog 46 #[v, .int .i64 (p : Int), .int .i64 (q : Int)] w (SlRet w (slI f 0 p q)) := by
  obtain ⟨R, HRR⟩ : ∃ R, Hid (R = SlRet w (slI f 0 p q)) := ⟨_, rfl⟩
  rw [← HRR.out]
  obtain ⟨A, c, rfl, _, _⟩ := h1.shape
  have HL := Lib.hid (rlength_any f _ w h1 hl hfl)
  have H1 := Lib.hid h1
  clear h1
  have hpi : ¬ (p : Int) < 0 := by omega
  have hqi : ¬ (q : Int) < (p : Int) := by omega
  have hqp : (p : Int) ≤ (q : Int) := by omega
  obtain ⟨n, hn⟩ : ∃ n, Hid (n = lenI f) := ⟨_, rfl⟩
  rw [← hn.out] at hl hq HL
  have hnq : ¬ (n : Int) < (q : Int) := by omega
  have hnqd : decide (n < q) = false := decide_eq_false (by omega)
  go_enter Tryd.func46, Tryd.ntmps46
  go_upto_region 6 with (go_at_call 34; refine HL.out.mono ?_; rintro e w1 ⟨rfl, rfl⟩)
  obtain ⟨wo, HWO⟩ : ∃ wo, Hid (wo = w) := ⟨w, rfl⟩
  go_loopg [8, 9, 10, 11, 12, 13, 29] f.length (fun gk ov av iv xv a1 b1 jv wr => ∃ k at_ : Nat, av = .int .i64 at_ ∧ jv = .int .i64 k ∧ k ≤ f.length ∧ Hid (at_ = lenI (f.take k)) ∧ Hid (OwnE 84 tkC 3 wr w.heap.size ov (slI (f.take k) 0 p q)) ∧ Hid (Below w.heap.size w wr) ∧ f.length - k ≤ gk)
  case atStart => exact ⟨0, 0, rfl, rfl, Nat.zero_le _, by (show _ = _); rw [List.take_zero]; rfl, OwnE.nil, Below.refl _ _, by omega⟩
  case round =>
    clear HWO
    obtain ⟨k, a0, rfl, rfl, hk, HA, HO, HB, hgk⟩ := hrel
    by_cases hkl : k < f.length
    · have hki : (k : Int) < (f.length : Int) := by omega
      have hk0 : (0 : Int) ≤ (k : Int) := by omega
      obtain ⟨b, o, rfl, hbl, q1, q2, q3⟩ := RdT.at_ H1.out k hkl
      have hsz := HB.out.size
      rw [← HB.out.cell (p := ⟨b, o + k * 3, none⟩) hbl] at q1
      rw [← HB.out.cell (p := ⟨b, o + k * 3 + 1, none⟩) hbl] at q2
      rw [← HB.out.cell (p := ⟨b, o + k * 3 + 2, none⟩) hbl] at q3
      have hbl2 : b < wr.heap.size := by omega
      have hle := lenI_le f (k + 1)
      have HTK := Lib.hid (slI_take f p q k hkl)
      have HTL := Lib.hid (lenI_take f k hkl)
      rw [HTL.out, ← HA.out] at hle
      rw [← HA.out] at HTK HTL
      have hol := slI_len (f.take k) 0 p q
      rw [List.length_take] at hol
      obtain ⟨Ao, co, hov⟩ := own_shape HO.out
      generalize hol0 : (slI (f.take k) 0 p q).length = no at hov hol
      subst hov
      have hol1 := Lib.hid hol0
      clear hol0
      have hol2 : no ≤ 1000000 := by omega
      clear hol
      generalize f[k] = x at q1 q2 q3 HTK HTL hle
      obtain ⟨xk, xt, xd⟩ := x
      simp only at q1 q2 q3
      rw [← hn.out] at hle
      have HW1 := Lib.hid ((Below.refl wr.heap.size wr).alloc (Nat.le_refl _) (.cells #[.int .i64 xk, .string xt, .int .i64 xd] 84))
      have HX : Hid ((wr.alloc (.cells #[.int .i64 xk, .string xt, .int .i64 xd] 84)).heap[wr.heap.size]? = some (.cells #[.int .i64 xk, .string xt, .int .i64 xd] 84)) := heap_alloc_new wr _
      go_upto_region 9 with fail
      generalize wr.alloc (.cells #[.int .i64 xk, .string xt, .int .i64 xd] 84) = w1 at HW1 HX ⊢
      obtain ⟨g, hg⟩ : ∃ g, Hid (g = wr.heap.size) := ⟨_, rfl⟩
      rw [← hg.out] at HX ⊢
      have hgl : g < w1.heap.size := (Array.getElem?_eq_some_iff.1 HX.out).1
      have hwg : wr.heap.size ≤ g := Nat.le_of_eq hg.out.symm
      clear q1 q2 q3
      obtain ⟨x0, x1, x2, _⟩ := bx3 HX.out
      have HO1 := Lib.hid (own_below HO.out HW1.out (Nat.le_refl _))
      have HB1 := Lib.hid (HB.out.trans (HW1.out.mono HB.out.size))
      have hz1 := HB1.out.size
      unfold pcI at HTK
      unfold wdI at HTL hle
      simp only at HTK HTL hle
      by_cases hx : xk = 1
      · subst hx
        have t1 : ((1 : Int) != 1) = false := rfl
        simp only [ne_eq, not_true_eq_false, if_false, if_true] at HTK HTL hle
        have hxs : xt.size ≤ 1000000000000000000 := by omega
        have ha0 : a0 ≤ 1000000000000000000 := by omega
        have HX2 : Hid (w1.drew.heap[g]? = some (.cells #[.int .i64 1, .string xt, .int .i64 xd] 84)) := HX.out
        have HO2 := Lib.hid (own_below HO1.out (below_drewN (Below.refl w1.heap.size w1) 1) (Nat.le_refl _))
        have HB2 := Lib.hid (below_drewN HB1.out 1)
        have hgl2 : g < w1.drew.heap.size := hgl
        have hz2 : w.heap.size ≤ w1.drew.heap.size := hz1
        change Hid (OwnE 84 tkC 3 w1.drew w.heap.size _ _) at HO2
        change Hid (Below w.heap.size w w1.drew) at HB2
        have HLT : Hid (∀ k, (Value.slice Ao no co).ownBlock = some k → k < g) := fun k hk => by have := (HO.out.lt k hk).2; omega
        go_upto_region 13 with fail
        go_region
        clear HX x0 x1 x2 HO1 HB1 hgl hz1 HO HB HW1
        generalize w1.drew = w2 at HX2 HO2 HB2 hgl2 hz2 ⊢
        obtain ⟨x0, x1, x2, _⟩ := bx3 HX2.out
        have HAN : Hid (a0 + xt.size = lenI (f.take (k + 1))) := HTL.out.symm
        generalize hca : max p a0 - a0 = ca at HTK
        rw [show max (p : Int) (a0 : Int) - (a0 : Int) = (ca : Int) by omega]
        by_cases hqa : a0 ≤ q
        · generalize hcb : min q (a0 + xt.size) - a0 = cb at HTK
          rw [show min (q : Int) ((a0 : Int) + (xt.size : Int)) - (a0 : Int) = (cb : Int) by omega]
          have hcbs : cb ≤ xt.size := by omega
          clear hca hcb
          by_cases hab : ca < cb
          · have habi : (ca : Int) < (cb : Int) := by omega
            rw [if_pos hab] at HTK
            have hcbi : (cb : Int) ≤ (xt.size : Int) := by omega
            have hcale : (ca : Int) ≤ (cb : Int) := by omega
            have hca0 : (0 : Int) ≤ (ca : Int) := by omega
            have hcb0 : (0 : Int) ≤ (cb : Int) := by omega
            go_upto_region 15 with fail
            obtain ⟨y, hy⟩ : ∃ y, Hid (y = xt.extract ca cb) := ⟨_, rfl⟩
            have HSL : Hid (∀ W : World, (Instr.sliceAt 9 (.string xt) (some (.int .i64 (ca : Int))) (some (.int .i64 (cb : Int))) none).run Tryd.prog W = .ok (.string y) W) := fun W => by
              rw [hy.out]
              go_simp
            have HL1 : Hid ((Instr.loadAt 9 (.pointer (some ⟨g, 1, none⟩))).run Tryd.prog w2.drew = .ok (.string xt) w2.drew) := ld_strR x1
            have HL2 : Hid ((Instr.loadAt 3 (.pointer (some ⟨g, 2, none⟩))).run Tryd.prog w2.drew = .ok (.int .i64 xd) w2.drew) := ld_int0 x2
            have HB3 := Lib.hid (below_drewN HB2.out 1)
            change Hid (Below w.heap.size w w2.drew) at HB3
            have HO3 := Lib.hid (own_below HO2.out (below_drewN (Below.refl w2.heap.size w2) 1) (Nat.le_refl _))
            change Hid (OwnE 84 tkC 3 w2.drew w.heap.size _ _) at HO3
            have hz3 : w.heap.size ≤ w2.drew.heap.size := hz2
            rw [← hy.out] at HTK
            refine wp_region_at 12 #[false, false, false, false, false, false, false, false, false, false, false, false] rfl rfl (by kernel_rfl) ?_
            refine wpAny_at (i := 0) (v := .slice Ao no co) (some 70) rfl rfl (by kernel_rfl) (by kernel_rfl) (by kernel_rfl) (fun _ _ _ h => h) (by kernel_rfl) (fun _ => ex_move _ _ rfl (by kernel_rfl)) ?_
            simp only [Act.put, List.setIfInBounds_toArray, List.set_cons_zero, List.set_cons_succ]
            refine wpAny_at (i := 1) (v := .pointer (some ⟨g, 1, none⟩)) (some 71) rfl rfl (by kernel_rfl) (by kernel_rfl) (by kernel_rfl) (fun _ _ _ h => h) (by kernel_rfl) (fun _ => ex_fieldAddr 84 _ 1 (.pointer (some ⟨g, 0, none⟩)) _ rfl (by kernel_rfl) (by go_simp)) ?_
            simp only [Act.put, List.setIfInBounds_toArray, List.set_cons_zero, List.set_cons_succ]
            refine wpAny_at (i := 3) (v := .int .i64 (ca : Int)) (some 73) rfl rfl (by kernel_rfl) (by kernel_rfl) (by kernel_rfl) (fun _ _ _ h => h) (by kernel_rfl) (fun _ => ex_move _ _ rfl (by kernel_rfl)) ?_
            simp only [Act.put, List.setIfInBounds_toArray, List.set_cons_zero, List.set_cons_succ]
            refine wpAny_at (i := 4) (v := .int .i64 (cb : Int)) (some 74) rfl rfl (by kernel_rfl) (by kernel_rfl) (by kernel_rfl) (fun _ _ _ h => h) (by kernel_rfl) (fun _ => ex_move _ _ rfl (by kernel_rfl)) ?_
            simp only [Act.put, List.setIfInBounds_toArray, List.set_cons_zero, List.set_cons_succ]
            refine wpAny_at (i := 6) (v := .pointer (some ⟨g, 2, none⟩)) (some 76) rfl rfl (by kernel_rfl) (by kernel_rfl) (by kernel_rfl) (fun _ _ _ h => h) (by kernel_rfl) (fun _ => ex_fieldAddr 84 _ 2 (.pointer (some ⟨g, 0, none⟩)) _ rfl (by kernel_rfl) (by go_simp)) ?_
            simp only [Act.put, List.setIfInBounds_toArray, List.set_cons_zero, List.set_cons_succ]
            refine wpAny_two 2 7 (by kernel_rfl) rfl rfl (by kernel_rfl) (by kernel_rfl) ?_ ?_
            · refine wp_of_val (v := .string xt) (ex_load 9 _ (.pointer (some ⟨g, 1, none⟩)) _ rfl (by kernel_rfl) (HL1.out)) ?_
              simp only [Act.put, List.setIfInBounds_toArray, List.set_cons_zero, List.set_cons_succ]
              refine wpAny_at (i := 5) (v := .string y) (some 75) rfl rfl (by kernel_rfl) (by kernel_rfl) (by kernel_rfl) (fun _ _ _ h => h) (by kernel_rfl) (fun _ => ex_slice 9 _ _ _ (.string xt) _ (some (.int .i64 (ca : Int))) (some (.int .i64 (cb : Int))) rfl (by kernel_rfl) (by kernel_rfl) (by kernel_rfl) (HSL.out _)) ?_
              simp only [Act.put, List.setIfInBounds_toArray, List.set_cons_zero, List.set_cons_succ]
              refine wpAny_val 7 (some 77) (.int .i64 xd) (by kernel_rfl) rfl rfl (by kernel_rfl) (ex_load 3 _ (.pointer (some ⟨g, 2, none⟩)) _ rfl (by kernel_rfl) (HL2.out)) ?_
              simp only [Act.put, List.setIfInBounds_toArray, List.set_cons_zero, List.set_cons_succ]
              refine wpAny_at (i := 8) (v := .agg #[.int .i64 1, .string y, .int .i64 xd]) (some 78) rfl rfl (by kernel_rfl) (by kernel_rfl) (by kernel_rfl) (fun _ _ _ h => h) (by kernel_rfl) (fun _ => ex_item (.const (.int .i64 1)) (.tmp 75) (.tmp 77) 1 y xd rfl rfl (by kernel_rfl) (by kernel_rfl)) ?_
              simp only [Act.put, List.setIfInBounds_toArray, List.set_cons_zero, List.set_cons_succ]
              have HX3 : Hid (w2.drew.heap[g]? = some (.cells #[.int .i64 1, .string xt, .int .i64 xd] 84)) := HX2.out
              have hgl3 : g < w2.drew.heap.size := hgl2
              clear HL1 HL2
              generalize w2.drew = w3 at HB3 HO3 hz3 HX3 hgl3 ⊢
              have HOA := Lib.hid (own_below HO3.out ((Below.refl w3.heap.size w3).alloc (Nat.le_refl _) (.cells (tkC ⟨1, y, xd⟩).toArray 84)) (Nat.le_refl _))
              refine wpAny_valw 9 (some 79) (.slice (some ⟨w3.heap.size, 0, none⟩) 1 1) (w3.alloc (.cells (tkC ⟨1, y, xd⟩).toArray 84)) (by kernel_rfl) rfl rfl (by kernel_rfl) (ex_boxI (.tmp 78) 1 y xd rfl (by kernel_rfl)) ?_
              simp only [Act.put, List.setIfInBounds_toArray, List.set_cons_zero, List.set_cons_succ]
              refine wpAny_only 10 (by kernel_rfl) rfl (by kernel_rfl) ?_
              refine wp_appR rfl (.tmp 70) (.tmp 79) 57 84 rfl Tryd.underlying57 _ tkC 3 32 item_info rfl (by decide) tkC_three tkC_one w.heap.size (.slice Ao no co) (slI (f.take k) 0 p q) rfl HOA.out (.slice (some ⟨w3.heap.size, 0, none⟩) 1 1) [⟨1, y, xd⟩] rfl (rdE_oneR tkC 3 tkC_three w3 _ rfl ⟨1, y, xd⟩ 84) (by rw [hol1.out, List.length_singleton]; omega) (by decide) (by simp; omega) ?_
              intro v9 w9 hown9 hbel9 hgr9 hat9
              obtain ⟨A9, c9, hv9⟩ := own_shape hown9
              rw [List.length_append, hol1.out] at hv9
              subst hv9
              have HP9 : Hid (OwnE 84 tkC 3 w9 w.heap.size (.slice A9 (no + 1) c9) (slI (f.take (k + 1)) 0 p q)) := by
                show OwnE _ _ _ _ _ _ _
                rw [HTK.out]
                exact hown9
              have hbn := hbel9 w.heap.size (w3.alloc (.cells (tkC ⟨1, y, xd⟩).toArray 84)) (Nat.le_refl _) (Below.refl _ _)
              have HB9 := Lib.hid ((HB3.out.alloc hz3 (.cells (tkC ⟨1, y, xd⟩).toArray 84)).trans hbn)
              show wpAny _ _ _ _ _ _ (Act.put _ (some 80) (.slice A9 (no + 1) c9)) w9
              simp only [Act.put, List.setIfInBounds_toArray, List.set_cons_zero, List.set_cons_succ]
              refine wpAny_at (i := 11) (v := .slice A9 (no + 1) c9) (some 8) rfl rfl (by kernel_rfl) (by kernel_rfl) (by kernel_rfl) (fun _ _ _ h => h) (by kernel_rfl) (fun _ => ex_assign _ _ rfl (by kernel_rfl)) ?_
              simp only [Act.put, List.setIfInBounds_toArray, List.set_cons_zero, List.set_cons_succ]
              refine wpAny_done (by kernel_rfl) ?_ _
              have HX9 : Hid (w9.heap[g]? = some (.cells #[.int .i64 1, .string xt, .int .i64 xd] 84)) := (hgr9.block g (by simp; omega) (fun e => by have := HLT.out g e.symm; omega)).trans ((Below.heap_alloc w3 _ g hgl3).trans HX3.out)
              have hgl9 : g < w9.heap.size := (Array.getElem?_eq_some_iff.1 HX9.out).1
              have y1 := (bx3 HX9.out).2.1
              clear hown9 hbel9 hgr9 hat9 hbn x0 x1 x2
              go_wp2_with fail
              go_roundg (f.length - (k + 1))
              case measure => omega
              case rel => exact ⟨k + 1, a0 + xt.size, rfl, rfl, by omega, HAN.out, HP9.out, HB9.out, by omega⟩
            · refine wp_of_val (v := .int .i64 xd) (ex_load 3 _ (.pointer (some ⟨g, 2, none⟩)) _ rfl (by kernel_rfl) (HL2.out)) ?_
              simp only [Act.put, List.setIfInBounds_toArray, List.set_cons_zero, List.set_cons_succ]
              refine wpAny_val 2 (some 72) (.string xt) (by kernel_rfl) rfl rfl (by kernel_rfl) (ex_load 9 _ (.pointer (some ⟨g, 1, none⟩)) _ rfl (by kernel_rfl) (HL1.out)) ?_
              simp only [Act.put, List.setIfInBounds_toArray, List.set_cons_zero, List.set_cons_succ]
              refine wpAny_at (i := 5) (v := .string y) (some 75) rfl rfl (by kernel_rfl) (by kernel_rfl) (by kernel_rfl) (fun _ _ _ h => h) (by kernel_rfl) (fun _ => ex_slice 9 _ _ _ (.string xt) _ (some (.int .i64 (ca : Int))) (some (.int .i64 (cb : Int))) rfl (by kernel_rfl) (by kernel_rfl) (by kernel_rfl) (HSL.out _)) ?_
              simp only [Act.put, List.setIfInBounds_toArray, List.set_cons_zero, List.set_cons_succ]
              refine wpAny_at (i := 8) (v := .agg #[.int .i64 1, .string y, .int .i64 xd]) (some 78) rfl rfl (by kernel_rfl) (by kernel_rfl) (by kernel_rfl) (fun _ _ _ h => h) (by kernel_rfl) (fun _ => ex_item (.const (.int .i64 1)) (.tmp 75) (.tmp 77) 1 y xd rfl rfl (by kernel_rfl) (by kernel_rfl)) ?_
              simp only [Act.put, List.setIfInBounds_toArray, List.set_cons_zero, List.set_cons_succ]
              have HX3 : Hid (w2.drew.heap[g]? = some (.cells #[.int .i64 1, .string xt, .int .i64 xd] 84)) := HX2.out
              have hgl3 : g < w2.drew.heap.size := hgl2
              clear HL1 HL2
              generalize w2.drew = w3 at HB3 HO3 hz3 HX3 hgl3 ⊢
              have HOA := Lib.hid (own_below HO3.out ((Below.refl w3.heap.size w3).alloc (Nat.le_refl _) (.cells (tkC ⟨1, y, xd⟩).toArray 84)) (Nat.le_refl _))
              refine wpAny_valw 9 (some 79) (.slice (some ⟨w3.heap.size, 0, none⟩) 1 1) (w3.alloc (.cells (tkC ⟨1, y, xd⟩).toArray 84)) (by kernel_rfl) rfl rfl (by kernel_rfl) (ex_boxI (.tmp 78) 1 y xd rfl (by kernel_rfl)) ?_
              simp only [Act.put, List.setIfInBounds_toArray, List.set_cons_zero, List.set_cons_succ]
              refine wpAny_only 10 (by kernel_rfl) rfl (by kernel_rfl) ?_
              refine wp_appR rfl (.tmp 70) (.tmp 79) 57 84 rfl Tryd.underlying57 _ tkC 3 32 item_info rfl (by decide) tkC_three tkC_one w.heap.size (.slice Ao no co) (slI (f.take k) 0 p q) rfl HOA.out (.slice (some ⟨w3.heap.size, 0, none⟩) 1 1) [⟨1, y, xd⟩] rfl (rdE_oneR tkC 3 tkC_three w3 _ rfl ⟨1, y, xd⟩ 84) (by rw [hol1.out, List.length_singleton]; omega) (by decide) (by simp; omega) ?_
              intro v9 w9 hown9 hbel9 hgr9 hat9
              obtain ⟨A9, c9, hv9⟩ := own_shape hown9
              rw [List.length_append, hol1.out] at hv9
              subst hv9
              have HP9 : Hid (OwnE 84 tkC 3 w9 w.heap.size (.slice A9 (no + 1) c9) (slI (f.take (k + 1)) 0 p q)) := by
                show OwnE _ _ _ _ _ _ _
                rw [HTK.out]
                exact hown9
              have hbn := hbel9 w.heap.size (w3.alloc (.cells (tkC ⟨1, y, xd⟩).toArray 84)) (Nat.le_refl _) (Below.refl _ _)
              have HB9 := Lib.hid ((HB3.out.alloc hz3 (.cells (tkC ⟨1, y, xd⟩).toArray 84)).trans hbn)
              show wpAny _ _ _ _ _ _ (Act.put _ (some 80) (.slice A9 (no + 1) c9)) w9
              simp only [Act.put, List.setIfInBounds_toArray, List.set_cons_zero, List.set_cons_succ]
              refine wpAny_at (i := 11) (v := .slice A9 (no + 1) c9) (some 8) rfl rfl (by kernel_rfl) (by kernel_rfl) (by kernel_rfl) (fun _ _ _ h => h) (by kernel_rfl) (fun _ => ex_assign _ _ rfl (by kernel_rfl)) ?_
              simp only [Act.put, List.setIfInBounds_toArray, List.set_cons_zero, List.set_cons_succ]
              refine wpAny_done (by kernel_rfl) ?_ _
              have HX9 : Hid (w9.heap[g]? = some (.cells #[.int .i64 1, .string xt, .int .i64 xd] 84)) := (hgr9.block g (by simp; omega) (fun e => by have := HLT.out g e.symm; omega)).trans ((Below.heap_alloc w3 _ g hgl3).trans HX3.out)
              have hgl9 : g < w9.heap.size := (Array.getElem?_eq_some_iff.1 HX9.out).1
              have y1 := (bx3 HX9.out).2.1
              clear hown9 hbel9 hgr9 hat9 hbn x0 x1 x2
              go_wp2_with fail
              go_roundg (f.length - (k + 1))
              case measure => omega
              case rel => exact ⟨k + 1, a0 + xt.size, rfl, rfl, by omega, HAN.out, HP9.out, HB9.out, by omega⟩
          · have habi : ¬ (ca : Int) < (cb : Int) := by omega
            rw [if_neg hab, List.append_nil] at HTK
            go_wp2_with fail
            go_roundg (f.length - (k + 1))
            case measure => omega
            case rel => exact ⟨k + 1, a0 + xt.size, rfl, rfl, by omega, HAN.out, by (rw [HTK.out]; exact HO2.out), HB2.out, by omega⟩
        · rw [if_neg (by omega), List.append_nil] at HTK
          have hmn : min (q : Int) ((a0 : Int) + (xt.size : Int)) - (a0 : Int) < 0 := by omega
          generalize min (q : Int) ((a0 : Int) + (xt.size : Int)) - (a0 : Int) = cb at hmn ⊢
          have habi : ¬ (ca : Int) < cb := by omega
          clear hca
          go_wp2_with fail
          go_roundg (f.length - (k + 1))
          case measure => omega
          case rel => exact ⟨k + 1, a0 + xt.size, rfl, rfl, by omega, HAN.out, by (rw [HTK.out]; exact HO2.out), HB2.out, by omega⟩
      · have t1 : (xk != 1) = true := by simpa using hx
        rw [if_pos hx] at HTK
        rw [if_neg hx] at HTL hle
        have HAN : Hid (a0 + 1 = lenI (f.take (k + 1))) := HTL.out.symm
        have ha0 : a0 ≤ 1000000000000000000 := by omega
        by_cases hpa : p ≤ a0
        · have hpai : (p : Int) ≤ (a0 : Int) := by omega
          by_cases haq : a0 < q
          · have haqi : (a0 : Int) < (q : Int) := by omega
            rw [if_pos ⟨hpa, haq⟩] at HTK
            have HOA := Lib.hid (own_below HO1.out ((Below.refl w1.heap.size w1).alloc (Nat.le_refl _) (.cells (tkC ⟨xk, xt, xd⟩).toArray 84)) (Nat.le_refl _))
            go_wp2_with (first
              | (refine wpList_load_row rfl 84 (.tmp 11) rfl g rfl 84 #[.int .i64 xk, .string xt, .int .i64 xd] (0, 0) _ HX.out Tryd.underlying84 rfl (by rw [item_sz]; rfl) ?_)
              | (at_builtin; refine wpList_appAt rfl (.tmp 47) (.tmp 49) 57 84 rfl Tryd.underlying57 _ tkC 3 32 item_info rfl (by decide) tkC_three tkC_one w.heap.size (.slice Ao no co) (slI (f.take k) 0 p q) rfl HOA.out (.slice (some ⟨w1.heap.size, 0, none⟩) 1 1) [⟨xk, xt, xd⟩] rfl (rdE_oneR tkC 3 tkC_three w1 _ rfl ⟨xk, xt, xd⟩ 84) (by rw [hol1.out, List.length_singleton]; omega) (by decide) (by simp; omega) ?_; intro v9 w9 hown9 hbel9 hgr9 hat9; obtain ⟨A9, c9, hv9⟩ := own_shape hown9; rw [List.length_append, hol1.out] at hv9; subst hv9))
            have HP9 : Hid (OwnE 84 tkC 3 w9 w.heap.size (.slice A9 (no + 1) c9) (slI (f.take (k + 1)) 0 p q)) := by
              show OwnE _ _ _ _ _ _ _
              rw [HTK.out]
              exact hown9
            have hbn := hbel9 w.heap.size (w1.alloc (.cells (tkC ⟨xk, xt, xd⟩).toArray 84)) (Nat.le_refl _) (Below.refl _ _)
            have HB9 := Lib.hid ((HB1.out.alloc hz1 (.cells (tkC ⟨xk, xt, xd⟩).toArray 84)).trans hbn)
            clear hown9 hbel9 hgr9 hat9 hbn
            go_wp2_with fail
            go_roundg (f.length - (k + 1))
            case measure => omega
            case rel => exact ⟨k + 1, a0 + 1, rfl, rfl, by omega, HAN.out, HP9.out, HB9.out, by omega⟩
          · have haqi : ¬ (a0 : Int) < (q : Int) := by omega
            rw [if_neg (fun h => haq h.2), List.append_nil] at HTK
            go_wp2_with fail
            go_roundg (f.length - (k + 1))
            case measure => omega
            case rel => exact ⟨k + 1, a0 + 1, rfl, rfl, by omega, HAN.out, by (rw [HTK.out]; exact HO1.out), HB1.out, by omega⟩
        · have hpai : ¬ (p : Int) ≤ (a0 : Int) := by omega
          rw [if_neg (fun h => hpa h.1), List.append_nil] at HTK
          go_wp2_with fail
          go_roundg (f.length - (k + 1))
          case measure => omega
          case rel => exact ⟨k + 1, a0 + 1, rfl, rfl, by omega, HAN.out, by (rw [HTK.out]; exact HO1.out), HB1.out, by omega⟩
    · obtain rfl : k = f.length := by omega
      go_wp2_with fail
      rw [HRR.out]
      refine ⟨_, rfl, ?_, HB.out⟩
      have h := HO.out
      rw [List.take_length] at h
      exact h

end Go.Proofs.YtpboaadjbkaidaaDoor

namespace Go.Proofs.YtpboaadjbkaidaaDoor
set_option maxRecDepth 100000
open Go.RowKit

set_option maxRecDepth 100000 in
set_option maxHeartbeats 4000000 in
theorem iplain_any (f : List Tk) (v : Value) (w : World) (h1 : RdT w v f) (hl : lenI f ≤ 1000000000) (hfl : f.length ≤ 1000000) :
    Calls Tryd.prog 72 #[v] w fun e w' => e = .returned (.string (plS f)) ∧ Below w.heap.size w w' := by
  obtain ⟨A, c, rfl, _, _⟩ := h1.shape
  have H1 := Lib.hid h1
  clear h1
  obtain ⟨i8, hi8, hz8, hs8, hb8⟩ := info_parts u8_info
  have HI8 := Lib.hid hi8
  have HZ8 := Lib.hid hz8
  have HS8 := Lib.hid hs8
  have HB8 := Lib.hid hb8
  clear hi8 hz8 hs8 hb8
  go_enter Tryd.func72, Tryd.ntmps72
  go_wp2_with fail
  obtain ⟨wo, HWO⟩ : ∃ wo, Hid (wo = w) := ⟨w, rfl⟩
  go_loopg [3, 5, 8] f.length (fun gk bv xv jv wr => ∃ (k : Nat) (bs : ByteArray), jv = .int .i64 k ∧ k ≤ f.length ∧ Hid (bs = plS (f.take k)) ∧ Hid (wr.ownsRow w.heap.size 5 1 bv bs.size (Go.Lib.strCells bs)) ∧ Hid (Below w.heap.size w wr) ∧ f.length - k ≤ gk)
  case atStart => exact ⟨0, ⟨#[]⟩, rfl, Nat.zero_le _, by (show _ = _); rw [List.take_zero]; rfl, World.ownsRow_nil _ _ _ _, Below.refl _ _, by omega⟩
  case round =>
    clear HWO
    obtain ⟨k, bs, rfl, hk, HS, HO, HB, hgk⟩ := hrel
    obtain ⟨A2, c2, hv2⟩ := own_shape HO.out
    subst hv2
    have hsz := HB.out.size
    by_cases hkl : k < f.length
    · have hki : (k : Int) < (f.length : Int) := by omega
      have hk0 : (0 : Int) ≤ (k : Int) := by omega
      obtain ⟨b, o, rfl, hbl, q1, q2, q3⟩ := RdT.at_ H1.out k hkl
      rw [← HB.out.cell (p := ⟨b, o + k * 3, none⟩) hbl] at q1
      rw [← HB.out.cell (p := ⟨b, o + k * 3 + 1, none⟩) hbl] at q2
      rw [← HB.out.cell (p := ⟨b, o + k * 3 + 2, none⟩) hbl] at q3
      have hbl2 : b < wr.heap.size := by omega
      have hss : bs.size ≤ lenI (f.take k) := by
        rw [HS.out, plS_size]
        exact plI_len _
      have hle := lenI_le f (k + 1)
      rw [lenI_take f k hkl] at hle
      have hsl : bs.size + wdI f[k] ≤ 1000000000 := by omega
      unfold wdI at hsl
      clear hle hss
      have c1 := Lib.hid (plS_text f k hkl)
      have c5 := Lib.hid (plS_slot f k hkl)
      have c0 := Lib.hid (plS_none f k hkl)
      rw [← HS.out] at c1 c5 c0
      generalize f[k] = x at q1 q2 q3 hsl c1 c5 c0
      obtain ⟨xk, xt, xd⟩ := x
      simp only at q1 q2 q3 hsl c1 c5 c0
      have HW1 := Lib.hid ((Below.refl wr.heap.size wr).alloc (Nat.le_refl _) (.cells #[.int .i64 xk, .string xt, .int .i64 xd] 84))
      have HX : Hid ((wr.alloc (.cells #[.int .i64 xk, .string xt, .int .i64 xd] 84)).heap[wr.heap.size]? = some (.cells #[.int .i64 xk, .string xt, .int .i64 xd] 84)) := heap_alloc_new wr _
      go_upto_region 5 with fail
      generalize wr.alloc (.cells #[.int .i64 xk, .string xt, .int .i64 xd] 84) = w1 at HW1 HX ⊢
      obtain ⟨g, hg⟩ : ∃ g, Hid (g = wr.heap.size) := ⟨_, rfl⟩
      rw [← hg.out] at HX ⊢
      have hgl : g < w1.heap.size := (Array.getElem?_eq_some_iff.1 HX.out).1
      clear q1 q2 q3
      obtain ⟨x0, x1, x2, _⟩ := bx3 HX.out
      have HO1 := Lib.hid (own_below HO.out HW1.out (Nat.le_refl _))
      have HB1 := Lib.hid (HB.out.trans (HW1.out.mono HB.out.size))
      have hz1 := HB1.out.size
      by_cases hx : xk = 1
      · subst hx
        simp only [if_true] at hsl
        have hxs : xt.size ≤ 1000000000 := by omega
        go_wp2_with (at_builtin; go_must (refine Go.Lib.wpList_append_own_string _ rfl (.tmp 16) (.tmp 18) 23 9 rfl w.heap.size 5 i8 Tryd.underlying23 Tryd.underlying9 HI8.out HZ8.out HS8.out HB8.out _ bs.size _ rfl (by exact HO1.out) xt rfl (by unfold maxLen; omega) (by omega) (by exact hz1) ?_); intro v7 w7 hown7 hgr7 _)
        have hB7 := HB1.out.grown hgr7 (by exact hz1) (fun q hq => (HO1.out.lt q hq).1)
        rw [str_cells_append] at hown7
        have hown8 : Hid (w7.ownsRow w.heap.size 5 1 v7 (bs ++ xt).size (Go.Lib.strCells (bs ++ xt))) := by
          show World.ownsRow _ _ _ _ _ _ _
          rw [ByteArray.size_append]
          exact hown7
        go_roundg (f.length - (k + 1))
        case measure => omega
        case rel => exact ⟨k + 1, bs ++ xt, rfl, by omega, c1.out (by first | trivial | rfl), hown8.out, hB7, by omega⟩
      · rw [if_neg hx] at hsl
        have t1 : (xk == 1) = false := by simpa using hx
        by_cases h5 : xk = 5
        · subst h5
          go_wp2_with (at_builtin; go_must (refine wpList_app1 rfl (.tmp 22) (.tmp 23) 23 5 rfl Tryd.underlying23 _ 1 1 u8_info rfl (by decide) w.heap.size _ bs.size _ rfl (by exact World.ownsRow.alloc HO1.out _) ⟨w1.heap.size, 0, none⟩ 1 [.int .u8 255] rfl rfl (by exact cells_at _ _ rfl _ _) (by intro u hu; rw [List.mem_singleton.1 hu]; rfl) (by omega) (by decide) (by simp; omega) ?_); intro g9 cap9 w9 hown9 hg9 hbel9 hgr9)
          have HB9 := Lib.hid (hbel9 w.heap.size w (Nat.le_refl _) (HB1.out.alloc hz1 _))
          have e255 : Go.Lib.strCells bs ++ [Value.int .u8 255] = Go.Lib.strCells (bs ++ (⟨#[255]⟩ : ByteArray)) := by
            rw [← str_cells_append]
            rfl
          rw [e255] at hown9
          have hown8 : Hid (w9.ownsRow w.heap.size 5 1 (.slice (some ⟨g9, 0, none⟩) (bs.size + 1) cap9) (bs ++ (⟨#[255]⟩ : ByteArray)).size (Go.Lib.strCells (bs ++ (⟨#[255]⟩ : ByteArray)))) := by
            show World.ownsRow _ _ _ _ _ _ _
            rw [ByteArray.size_append]
            exact hown9
          go_roundg (f.length - (k + 1))
          case measure => omega
          case rel => exact ⟨k + 1, bs ++ (⟨#[255]⟩ : ByteArray), rfl, by omega, c5.out (by first | trivial | rfl), hown8.out, HB9.out, by omega⟩
        · have t5 : (xk == 5) = false := by simpa using h5
          go_wp2_with fail
          go_roundg (f.length - (k + 1))
          case measure => omega
          case rel => exact ⟨k + 1, bs, rfl, by omega, c0.out hx h5, HO1.out, HB1.out, by omega⟩
    · obtain rfl : k = f.length := by omega
      have e : Hid (bs = plS f) := by (show _ = _); rw [HS.out, List.take_length]
      by_cases h0 : 0 < bs.size
      · have hcv := run_string_own bs 23 9 Tryd.underlying23 Tryd.underlying5 Tryd.underlying9 HO.out rfl h0
        go_wp2_with fail
        go_ret
        exact ⟨by rw [← e.out]; rfl, HB.out⟩
      · have hcv : (convert 23 9 (.slice A2 bs.size c2)).run Tryd.prog wr = .ok (.string bs) wr := by
          have hz : bs.size = 0 := by omega
          have hb0 : bs = ⟨#[]⟩ := by
            cases bs with
            | mk d =>
              have : d.size = 0 := hz
              rw [Array.eq_empty_of_size_eq_zero this]
          rw [hz, hb0]
          cases A2 with
          | some a2 => exact run_convert_bytes_back wr 23 9 5 a2 c2 [] Tryd.underlying23 Tryd.underlying5 Tryd.underlying9 (fun j hj => by simp at hj)
          | none =>
            rw [run_convert_bytes_string (P := Tryd.prog) wr 23 9 5 none 0 c2 Tryd.underlying23 Tryd.underlying5 Tryd.underlying9]
            simp [Conv.bytesToString]
            rfl
        go_wp2_with fail
        go_ret
        exact ⟨by rw [← e.out]; rfl, HB.out⟩

end Go.Proofs.YtpboaadjbkaidaaDoor

namespace Go.Proofs.YtpboaadjbkaidaaDoor
set_option maxRecDepth 100000
open Go.RowKit

set_option maxHeartbeats 4000000 in
theorem norm_anyL (f : List Tk) (v : Value) (w : World) (hf : RdT w v f) (hl : f.length ≤ 100000) (hbt : lenI f ≤ 1000000) :
    Calls Tryd.prog 73 #[v] w (RetOwn 84 tkC 3 w (normL f)) := by
  obtain ⟨A, c, rfl, _, _⟩ := hf.shape
  have HF := Lib.hid hf
  obtain ⟨i8, hi8, hz8, hs8, hb8⟩ := info_parts u8_info
  have HI8 := Lib.hid hi8
  have HZ8 := Lib.hid hz8
  have HS8 := Lib.hid hs8
  have HB8 := Lib.hid hb8
  clear hf hi8 hz8 hs8 hb8
  go_enter Tryd.func73, Tryd.ntmps73
  go_wp2
  go_loopw [3, 4] (fun ov i wr => ∃ k : Nat, k ≤ f.length ∧ i = .int .i64 k ∧ Hid (OwnT 84 wr w.heap.size ov (normL (f.take k))) ∧ Below w.heap.size w wr ∧ Hid (∀ h : k < f.length, (f[k]'h).k = 1 → NoText (normL (f.take k)))) (fun _ i _ => f.length - (intOf i).toNat)
  case atStart => exact ⟨0, by omega, rfl, OwnE.nil, Below.refl _ _, fun _ _ y hy => by simp [normL] at hy⟩
  case round =>
    obtain ⟨k, hk, rfl, HO, hb, HN⟩ := hrel
    have hsize := hb.size
    obtain ⟨A', c', hv⟩ := own_shape HO.out
    subst hv
    have hol : (normL (f.take k)).length ≤ f.length := by
      have := normL_length (f.take k)
      rw [List.length_take] at this
      omega
    by_cases hkl : k < f.length
    · obtain ⟨b, o, rfl, hbl, q1, q2, q3⟩ := RdT.at_ HF.out k hkl
      rw [← hb.cell (p := ⟨b, o + k * 3, none⟩) hbl] at q1
      rw [← hb.cell (p := ⟨b, o + k * 3 + 1, none⟩) hbl] at q2
      rw [← hb.cell (p := ⟨b, o + k * 3 + 2, none⟩) hbl] at q3
      have HT := Lib.hid (normL_take f k hkl)
      have HNK := Lib.hid (HN.out hkl)
      generalize hx : f[k] = x at q1 q2 q3 HT HNK
      have HX := Lib.hid hx
      obtain ⟨xk, xt, xd⟩ := x
      simp only at q1 q2 q3
      clear hx
      by_cases h1 : xk = 1
      · have HNO := Lib.hid (HNK.out h1)
        generalize hout : normL (f.take k) = out at HO hol HNO HT
        have HOUT := Lib.hid hout
        subst h1
        clear hout
        go_wp2_with fail
        obtain ⟨wo, rfl⟩ : ∃ wo : World, wo = wr := ⟨_, rfl⟩
        go_loopw [4, 5] (fun i bv wi => ∃ (j : Nat) (bs : ByteArray), k ≤ j ∧ j ≤ f.length ∧ i = .int .i64 j ∧ bs.size ≤ 1000000 ∧ Hid (bs.size ≤ lenI (f.take j)) ∧ Hid (wi.ownsRow wo.heap.size 5 1 bv bs.size (Go.Lib.strCells bs)) ∧ Hid (Below wo.heap.size wo wi) ∧ Hid (normL (f.take j) = normStep out ⟨1, bs, 0⟩) ∧ Hid (j = k → bs.size = 0)) (fun i _ _ => f.length - (intOf i).toNat)
        case atStart => exact ⟨k, ⟨#[]⟩, by omega, by omega, rfl, by decide, Nat.zero_le _, World.ownsRow_nil _ _ _ _, Below.refl _ _, by rw [step_none _ _ _ rfl]; exact HOUT.out, fun _ => rfl⟩
        case round =>
          obtain ⟨j, bs, hkj, hj, rfl, hbs, HBS, HBV, HBI, HNJ, HJK⟩ := hrel
          obtain ⟨A2, c2, hv2⟩ := own_shape HBV.out
          subst hv2
          have hzi := HBI.out.size
          have HOI := Lib.hid (own_below HO.out HBI.out (Nat.le_refl _))
          have HBW := Lib.hid (hb.trans (HBI.out.mono hsize))
          by_cases hjl : j < f.length
          · have hlt2 : decide ((j : Int) < (f.length : Int)) = true := by simp; omega
            obtain ⟨b', o', hA', _, p1, p2, p3⟩ := RdT.at_ HF.out j hjl
            injection hA' with hA'
            injection hA' with e1 e2 _
            subst e1 e2
            rw [← HBW.out.cell (p := ⟨b, o + j * 3, none⟩) hbl] at p1
            rw [← HBW.out.cell (p := ⟨b, o + j * 3 + 1, none⟩) hbl] at p2
            rw [← HBW.out.cell (p := ⟨b, o + j * 3 + 2, none⟩) hbl] at p3
            have HTJ := Lib.hid (normL_take f j hjl)
            have hgb := lenI_le f (j + 1)
            rw [lenI_take f j hjl] at hgb
            have HBJ := Lib.hid (lenI_take f j hjl)
            unfold wdI at hgb HBJ
            generalize hy : f[j] = y at p1 p2 p3 HTJ hgb HBJ
            have HY := Lib.hid hy
            obtain ⟨yk, yt, yd⟩ := y
            simp only at p1 p2 p3 hgb
            clear hy
            have hbsz := HBS.out
            by_cases hy1 : yk = 1
            · subst hy1
              simp only [if_true] at hgb HBJ
              go_wp2_with (at_builtin; go_must (refine Go.Lib.wpList_append_own_string _ rfl (.tmp 37) (.tmp 42) 23 9 rfl wo.heap.size 5 i8 Tryd.underlying23 Tryd.underlying9 HI8.out HZ8.out HS8.out HB8.out _ bs.size _ rfl (by exact HBV.out) yt rfl (by unfold maxLen; omega) (by omega) (by exact HBI.out.size) ?_); intro v7 w7 hown7 hgr7 _)
              have hB7 := HBI.out.grown hgr7 (by exact HBI.out.size) (fun q hq => (HBV.out.lt q hq).1)
              refine ⟨⟨j + 1, bs ++ yt, by omega, by omega, by go_num, by rw [ByteArray.size_append]; omega, ?_, ?_, hB7, ?_, fun h => absurd h (by omega)⟩, by simp [intOf]; try omega⟩
              · show (bs ++ yt).size ≤ lenI (f.take (j + 1))
                rw [ByteArray.size_append, HBJ.out]
                show bs.size + yt.size ≤ lenI (f.take j) + yt.size
                omega
              · rw [str_cells_append] at hown7
                rw [ByteArray.size_append]
                exact hown7
              · show normL (f.take (j + 1)) = normStep out ⟨1, bs ++ yt, 0⟩
                rw [HTJ.out, HNJ.out, step_assoc _ _ _ _ _ 0]
            · have ty : (yk == 1) = false := by simpa using hy1
              have hjk : k < j := by
                rcases Nat.lt_or_ge k j with h | h
                · exact h
                · exfalso
                  obtain rfl : j = k := by omega
                  have := HX.out
                  rw [HY.out] at this
                  injection this with e _ _
                  exact hy1 e
              by_cases hz : 0 < bs.size
              · have hcv := run_string_own bs 23 9 Tryd.underlying23 Tryd.underlying5 Tryd.underlying9 HBV.out rfl hz
                go_wp2_with (at_builtin; go_must (refine wpList_app1 rfl (.tmp 49) (.tmp 53) 57 84 rfl Tryd.underlying57 _ 3 32 item_info rfl (by decide) w.heap.size _ out.length (out.flatMap tkC) rfl (by exact World.ownsRow.alloc HOI.out _) ⟨wr.heap.size, 0, none⟩ 1 (tkC ⟨1, bs, 0⟩) rfl rfl (by exact cells_at _ _ rfl _ _) (tkC_one _) (by omega) (by decide) (by simp; omega) ?_); intro g cap w1 hown1 hg1 hbel1 hgr1)
                refine ⟨⟨j, by omega, rfl, ?_, hbel1 _ _ (Nat.le_refl _) (by exact HBW.out.alloc (by omega) _), fun h hk => by rw [HY.out] at hk; exact absurd hk hy1⟩, by simp [intOf]; try omega⟩
                rw [HNJ.out, step_noText _ _ _ HNO.out (by omega)]
                exact OwnE.snoc hown1
              · have hz0 : bs.size = 0 := by omega
                have HOJ : Hid (normL (f.take j) = out) := by
                  show normL (f.take j) = out
                  rw [HNJ.out, step_none _ _ _ hz0]
                have HZ0 := Lib.hid hz0
                clear hz0
                go_wp2_with fail
                refine ⟨⟨j, by omega, rfl, ?_, HBW.out, fun h hk => by rw [HY.out] at hk; exact absurd hk hy1⟩, by simp [intOf]; try omega⟩
                rw [HOJ.out]
                exact HOI.out
          · obtain rfl : j = f.length := by omega
            have hlt2 : decide ((f.length : Int) < (f.length : Int)) = false := by simp
            by_cases hz : 0 < bs.size
            · have hcv := run_string_own bs 23 9 Tryd.underlying23 Tryd.underlying5 Tryd.underlying9 HBV.out rfl hz
              go_wp2_with (at_builtin; go_must (refine wpList_app1 rfl (.tmp 49) (.tmp 53) 57 84 rfl Tryd.underlying57 _ 3 32 item_info rfl (by decide) w.heap.size _ out.length (out.flatMap tkC) rfl (by exact World.ownsRow.alloc HOI.out _) ⟨wr.heap.size, 0, none⟩ 1 (tkC ⟨1, bs, 0⟩) rfl rfl (by exact cells_at _ _ rfl _ _) (tkC_one _) (by omega) (by decide) (by simp; omega) ?_); intro g cap w1 hown1 hg1 hbel1 hgr1)
              refine ⟨⟨f.length, by omega, rfl, ?_, hbel1 _ _ (Nat.le_refl _) (by exact HBW.out.alloc (by omega) _), fun h => absurd h (by omega)⟩, by simp [intOf]; try omega⟩
              rw [HNJ.out, step_noText _ _ _ HNO.out (by omega)]
              exact OwnE.snoc hown1
            · have hz0 : bs.size = 0 := by omega
              have HOJ : Hid (normL (f.take f.length) = out) := by
                show normL (f.take f.length) = out
                rw [HNJ.out, step_none _ _ _ hz0]
              have HZ0 := Lib.hid hz0
              clear hz0
              go_wp2_with fail
              refine ⟨⟨f.length, by omega, rfl, ?_, HBW.out, fun h => absurd h (by omega)⟩, by simp [intOf]; try omega⟩
              rw [HOJ.out]
              exact HOI.out
      · have t1 : (xk != 1) = true := by simpa using h1
        have h1' : xk ≠ 1 := h1
        have H1 := Lib.hid h1'
        clear h1 h1'
        go_wp2_with (at_builtin; go_must (refine wpList_app1 rfl (.tmp 16) (.tmp 21) 57 84 rfl Tryd.underlying57 _ 3 32 item_info rfl (by decide) w.heap.size _ (normL (f.take k)).length ((normL (f.take k)).flatMap tkC) rfl (by exact World.ownsRow.alloc HO.out _) ⟨wr.heap.size, 0, none⟩ 1 (tkC ⟨xk, xt, xd⟩) rfl rfl (by exact cells_at _ _ rfl _ _) (tkC_one _) (by omega) (by decide) (by simp; omega) ?_); intro g cap w1 hown1 hg1 hbel1 hgr1)
        have hst := step_other (normL (f.take k)) ⟨xk, xt, xd⟩ H1.out
        refine ⟨⟨k + 1, by omega, by go_num, ?_, hbel1 _ _ (Nat.le_refl _) (by exact hb.alloc hsize _), fun h _ y hy => ?_⟩, by simp [intOf]; try omega⟩
        · rw [HT.out, hst]
          exact OwnE.snoc hown1
        · rw [HT.out, hst] at hy
          simp at hy
          rw [← hy]
          exact H1.out
    · obtain rfl : k = f.length := by omega
      have he := HO.out
      rw [List.take_length] at he hol ⊢
      have HE := Lib.hid he
      have e0 : decide ((f.length : Int) < (f.length : Int)) = false := by simp
      clear he HO
      go_wp2_with fail
      go_ret
      exact ⟨_, rfl, HE.out, hb⟩

end Go.Proofs.YtpboaadjbkaidaaDoor

namespace Go.Proofs.YtpboaadjbkaidaaDoor
set_option maxRecDepth 100000
open Go.RowKit

set_option maxRecDepth 100000 in
set_option maxHeartbeats 8000000 in
theorem place5_any (f : List Tk) (v : Value) (off : Int) (w : World) (h1 : RdT w v f) (hl : lenI f ≤ 1000000) (hfl : f.length ≤ 100000) :
    Calls Tryd.prog 37 #[v, .int .i64 off] w fun e w' => e = .returned (.int .i64 (placeF f off)) ∧ Below w.heap.size w w' := by
  obtain ⟨A, c, rfl, _, _⟩ := h1.shape
  have HPL := Lib.hid (iplain_any f _ w h1 (by omega) (by omega))
  have HNL := Lib.hid (fun (u : World) (h : Below w.heap.size w u) => norm_anyL f _ u (RdE.below h1 h (Nat.le_refl _)) hfl hl)
  have hps := plS_size f
  have hpl := plI_len f
  obtain ⟨V, HV⟩ : ∃ V, Hid (placeF f off = V) := ⟨_, rfl⟩
  rw [HV.out]
  unfold placeF at HV
  clear h1
  by_cases h0 : off < 0
  · rw [if_pos (Or.inl h0)] at HV
    go_enter Tryd.func37, Tryd.ntmps37
    go_wp2_with fail
    go_ret
    exact ⟨by rw [← HV.out]; rfl, Below.refl _ _⟩
  obtain ⟨o, rfl⟩ : ∃ o : Nat, off = (o : Int) := ⟨off.toNat, by omega⟩
  by_cases h2 : (plI f).length < o
  · rw [if_pos (Or.inr (by omega))] at HV
    generalize plS f = s at HPL hps
    have h2i : (s.size : Int) < (o : Int) := by omega
    go_enter Tryd.func37, Tryd.ntmps37
    go_wp2_with (go_at_call 72; refine HPL.out.mono ?_; rintro e w1 ⟨rfl, hb1⟩)
    go_ret
    exact ⟨by rw [← HV.out]; rfl, hb1⟩
  · rw [if_neg (by omega)] at HV
    rw [Int.toNat_natCast, ← posI_norm] at HV
    have htot : o ≤ cntP (posI (normL f)) := by rw [posI_norm, cntP_pos]; omega
    have hnl := normL_length f
    have hlg : lenI (normL f) ≤ 1000000 := by rw [← posI_len, posI_norm, posI_len]; exact hl
    generalize plS f = s at HPL hps
    have HWD := Lib.hid (normal_wd (normL f) (normL_normal f))
    generalize normL f = g at HNL HV htot hnl hlg HWD
    have hgl : g.length ≤ 100000 := by omega
    have h2i : ¬ (s.size : Int) < (o : Int) := by omega
    have ho0 : ¬ (o : Int) < 0 := by omega
    have ho1 : o ≤ 1000000 := by omega
    go_enter Tryd.func37, Tryd.ntmps37
    go_upto_region 5 with (first
      | (go_at_call 72; refine HPL.out.mono ?_; rintro e w1 ⟨rfl, hb1⟩; have HB1 := Lib.hid hb1)
      | (go_at_call 73; refine (HNL.out _ HB1.out).mono ?_; rintro e w2 ⟨v2, rfl, ho2, hb2⟩; obtain ⟨A2, c2, hv2⟩ := own_shape ho2; subst hv2; have HB2 := Lib.hid (HB1.out.trans (hb2.mono HB1.out.size)); have HR2 := Lib.hid (OwnE.rd tkC_three ho2)))
    clear hb1 ho2 hb2 HNL HPL hps hpl HB1
    obtain ⟨wo, HWO⟩ : ∃ wo, Hid (wo = w2) := ⟨w2, rfl⟩
    go_loopg [1, 5, 6, 7] g.length (fun gk rv av iv xv wr => ∃ i a r : Nat, rv = .int .i64 r ∧ av = .int .i64 a ∧ iv = .int .i64 i ∧ i ≤ g.length ∧ a ≤ 1000000 ∧ Hid (a + lenI (g.drop i) = lenI g) ∧ Hid (r ≤ cntP (posI (g.drop i))) ∧ r ≤ 1000000 ∧ Hid (((a + placeP (posI (g.drop i)) r : Nat) : Int) = V) ∧ Hid (Below w2.heap.size w2 wr) ∧ g.length - i ≤ gk)
    case atStart => exact ⟨0, 0, o, rfl, rfl, rfl, Nat.zero_le _, by omega, by (show _ = _); rw [List.drop_zero]; omega, by (show _ ≤ _); rw [List.drop_zero]; exact htot, ho1, by (show _ = _); rw [List.drop_zero, Nat.zero_add]; exact HV.out, Below.refl _ _, by omega⟩
    case round =>
      clear HWO HV htot
      obtain ⟨i, a, r, rfl, rfl, rfl, hi, ha, HLN, HCN, hr, HVV, HB, hgk⟩ := hrel
      by_cases hr0 : 0 < r
      · have hr0i : (0 : Int) < (r : Int) := by omega
        have hil : i < g.length := by
          rcases Nat.lt_or_ge i g.length with h | h
          · exact h
          · exfalso
            have h2 := HCN.out
            rw [List.drop_eq_nil_of_le h] at h2
            simp [posI, cntP] at h2
            omega
        have hii : (i : Int) < (g.length : Int) := by omega
        have hi0 : (0 : Int) ≤ (i : Int) := by omega
        have hsz := HB.out.size
        obtain ⟨b, ob, rfl, hbl, q1, q2, q3⟩ := RdT.at_ HR2.out i hil
        rw [← HB.out.cell (p := ⟨b, ob + i * 3, none⟩) hbl] at q1
        rw [← HB.out.cell (p := ⟨b, ob + i * 3 + 1, none⟩) hbl] at q2
        rw [← HB.out.cell (p := ⟨b, ob + i * 3 + 2, none⟩) hbl] at q3
        have hbl2 : b < wr.heap.size := by omega
        have HD := Lib.hid (posI_drop g i hil)
        rw [HD.out] at HVV HCN
        rw [List.drop_eq_getElem_cons hil, lenI] at HLN
        rw [cntP_app, cntP_item] at HCN
        clear HD
        generalize g[i] = x at q1 q2 q3 HVV HCN HLN
        obtain ⟨xk, xt, xd⟩ := x
        simp only at q1 q2 q3
        have HX : Hid ((wr.alloc (.cells #[.int .i64 xk, .string xt, .int .i64 xd] 84)).heap[wr.heap.size]? = some (.cells #[.int .i64 xk, .string xt, .int .i64 xd] 84)) := heap_alloc_new wr _
        have HB1 := Lib.hid (HB.out.alloc hsz (.cells #[.int .i64 xk, .string xt, .int .i64 xd] 84))
        go_upto_region 8 with fail
        generalize wr.alloc (.cells #[.int .i64 xk, .string xt, .int .i64 xd] 84) = w3 at HX HB1 ⊢
        obtain ⟨q, hq⟩ : ∃ q, Hid (q = wr.heap.size) := ⟨_, rfl⟩
        rw [← hq.out] at HX ⊢
        have hql : q < w3.heap.size := (Array.getElem?_eq_some_iff.1 HX.out).1
        clear q1 q2 q3
        obtain ⟨x0, x1, x2, _⟩ := bx3 HX.out
        by_cases hx : xk = 1
        · subst hx
          have hby : byI ⟨1, xt, xd⟩ = xt.data.toList := rfl
          have hps1 : psI ⟨1, xt, xd⟩ = List.replicate xt.size (true, false) := rfl
          have hw1 : wdI ⟨1, xt, xd⟩ = xt.size := rfl
          rw [hw1] at HLN
          rw [hby] at HCN
          rw [hps1] at HVV
          have hxs : xt.size ≤ 1000000 := by have := HLN.out; omega
          by_cases hrs : r < xt.size
          · have hrsi : (r : Int) < (xt.size : Int) := by omega
            have HVQ : Hid (((a + r : Nat) : Int) = V) := by
              show _ = _
              rw [← HVV.out, placeP_in _ _ _ hrs hr0]
            go_wp2_with fail
            go_ret
            refine ⟨?_, HB2.out.trans (HB1.out.mono HB2.out.size)⟩
            rw [← HVQ.out]
            rfl
          · have hrsi : ¬ (r : Int) < (xt.size : Int) := by omega
            have HL2 : Hid (a + xt.size + lenI (g.drop (i + 1)) = lenI g) := by show _ = _; rw [← HLN.out]; omega
            have hax : a + xt.size ≤ 1000000 := by have := HL2.out; omega
            have HC2 : Hid (r - xt.size ≤ cntP (posI (g.drop (i + 1)))) := by
              have h := HCN.out
              have e : xt.data.toList.length = xt.size := by simp
              rw [e] at h
              show _ ≤ _
              omega
            have HV2 : Hid (((a + xt.size + placeP (posI (g.drop (i + 1))) (r - xt.size) : Nat) : Int) = V) := by
              show _ = _
              rw [← HVV.out, placeP_text _ _ _ (by omega)]
              congr 1
              omega
            have e1 : ((r - xt.size : Nat) : Int) = (r : Int) - (xt.size : Int) := by omega
            go_upto_region 11 with fail
            go_region
            have HB3 : Hid (Below w2.heap.size w2 w3.drew) := below_drewN HB1.out 1
            go_wp2_with fail
            go_roundg (g.length - (i + 1))
            case measure => omega
            case rel => exact ⟨i + 1, a + xt.size, r - xt.size, by rw [e1], rfl, rfl, by omega, hax, HL2.out, HC2.out, by omega, HV2.out, HB3.out, by omega⟩
        · have t1 : (xk == 1) = false := by simpa using hx
          have hw1 : wdI ⟨xk, xt, xd⟩ = 1 := by
            unfold wdI
            exact if_neg hx
          rw [hw1] at HLN
          have HL2 : Hid (a + 1 + lenI (g.drop (i + 1)) = lenI g) := by show _ = _; rw [← HLN.out]; omega
          have hax : a + 1 ≤ 1000000 := by have := HL2.out; omega
          obtain ⟨r', rfl⟩ : ∃ r', r = r' + 1 := ⟨r - 1, by omega⟩
          by_cases h5 : xk = 5
          · subst h5
            have HC2 : Hid (r' ≤ cntP (posI (g.drop (i + 1)))) := by
              have h := HCN.out
              have e : (byI ⟨5, xt, xd⟩).length = 1 := rfl
              rw [e] at h
              show _ ≤ _
              omega
            have HV2 : Hid (((a + 1 + placeP (posI (g.drop (i + 1))) r' : Nat) : Int) = V) := by
              show _ = _
              rw [← HVV.out, placeP_slot _ rfl]
              congr 1
              omega
            go_wp2_with fail
            go_roundg (g.length - (i + 1))
            case measure => omega
            case rel => exact ⟨i + 1, a + 1, r', rfl, rfl, rfl, by omega, hax, HL2.out, HC2.out, by omega, HV2.out, HB1.out, by omega⟩
          · have t5 : (xk == 5) = false := by simpa using h5
            have HC2 : Hid (r' + 1 ≤ cntP (posI (g.drop (i + 1)))) := by
              have h := HCN.out
              have e : (byI ⟨xk, xt, xd⟩).length = 0 := by unfold byI; simp [hx, h5]
              rw [e] at h
              show _ ≤ _
              omega
            have HV2 : Hid (((a + 1 + placeP (posI (g.drop (i + 1))) (r' + 1) : Nat) : Int) = V) := by
              show _ = _
              rw [← HVV.out, placeP_tag _ hx h5]
              congr 1
              omega
            go_wp2_with fail
            go_roundg (g.length - (i + 1))
            case measure => omega
            case rel => exact ⟨i + 1, a + 1, r' + 1, rfl, rfl, rfl, by omega, hax, HL2.out, HC2.out, by omega, HV2.out, HB1.out, by omega⟩
      · obtain rfl : r = 0 := by omega
        have HBL := Lib.hid (HB2.out.trans (HB.out.mono HB2.out.size))
        have hsz := HB.out.size
        have HVC : Hid (((a + clP (posI (g.drop i)) : Nat) : Int) = V) := by
          have h := HVV.out
          rw [placeP] at h
          exact h
        clear HCN HVV hgk
        go_wp2_with fail
        go_loopg [5, 6] (g.length - i) (fun gk av iv wx => ∃ i a : Nat, av = .int .i64 a ∧ iv = .int .i64 i ∧ i ≤ g.length ∧ a ≤ 1000000 ∧ Hid (a + lenI (g.drop i) = lenI g) ∧ Hid (((a + clP (posI (g.drop i)) : Nat) : Int) = V) ∧ wx = wr ∧ g.length - i ≤ gk)
        case atStart => exact ⟨i, a, rfl, rfl, hi, ha, HLN.out, HVC.out, rfl, Nat.le_refl _⟩
        case round =>
          clear HLN HVC
          obtain ⟨j, e, rfl, rfl, hj, he, HLN, HVC, rfl, hgk⟩ := hrel
          by_cases hjl : j < g.length
          · have hji : (j : Int) < (g.length : Int) := by omega
            have hj0 : (0 : Int) ≤ (j : Int) := by omega
            obtain ⟨b, ob, rfl, hbl, q1, _, _⟩ := RdT.at_ HR2.out j hjl
            rw [← HB.out.cell (p := ⟨b, ob + j * 3, none⟩) hbl] at q1
            rw [posI_drop g j hjl] at HVC
            rw [List.drop_eq_getElem_cons hjl, lenI] at HLN
            have hwd := HWD.out _ (List.getElem_mem hjl)
            generalize g[j] = x at q1 HVC HLN hwd
            have hw1 : x.k = 3 → wdI x = 1 := fun h => by unfold wdI; rw [if_neg (by omega)]
            by_cases h3 : x.k = 3
            · rw [clP_close x h3] at HVC
              rw [hw1 h3] at HLN
              have hL2 : e + 1 + lenI (g.drop (j + 1)) = lenI g := by rw [← HLN.out]; omega
              have he1 : e + 1 ≤ 1000000 := by omega
              have HL3 := Lib.hid hL2
              clear hL2 hw1
              rw [h3] at q1
              go_wp2_with fail
              go_roundg (g.length - (j + 1))
              case measure => omega
              case rel => exact ⟨j + 1, e + 1, rfl, rfl, by omega, he1, HL3.out, by (show _ = _); rw [← HVC.out]; congr 1; omega, rfl, by omega⟩
            · rw [clP_other x h3 hwd] at HVC
              have t3 : (x.k == 3) = false := by simpa using h3
              clear hw1
              go_wp2_with fail
              go_ret
              refine ⟨?_, HBL.out⟩
              rw [← HVC.out]
              rfl
          · obtain rfl : j = g.length := by omega
            have e9 : clP (posI (g.drop g.length)) = 0 := by rw [List.drop_length]; rfl
            rw [e9] at HVC
            go_wp2_with fail
            go_ret
            refine ⟨?_, HBL.out⟩
            rw [← HVC.out]
            rfl

end Go.Proofs.YtpboaadjbkaidaaDoor

namespace Go.Proofs.YtpboaadjbkaidaaDoor
set_option maxRecDepth 100000
open Go.RowKit

theorem slice_str (s : ByteArray) (a b : Nat) (hab : a ≤ b) (hb : b ≤ s.size) (W : World) : (Instr.sliceAt 9 (.string s) (some (.int .i64 (a : Int))) (some (.int .i64 (b : Int))) none).run Tryd.prog W = .ok (.string (s.extract a b)) W := by
  have h1 : (a : Int) ≤ (b : Int) := by omega
  have h2 : (b : Int) ≤ (s.size : Int) := by omega
  have h3 : (0 : Int) ≤ (a : Int) := by omega
  have h4 : (0 : Int) ≤ (b : Int) := by omega
  go_simp
/-- A row whose block stands. -/
theorem own_stay {w w' : World} {B : Nat} {e : TypeId} {size : Nat} {v : Value} {n : Nat} {xs : List Value} (h : w.ownsRow B e size v n xs) (hk : ∀ k, v.ownBlock = some k → w'.heap[k]? = w.heap[k]?) : w'.ownsRow B e size v n xs := by
  refine ⟨h.1, ?_⟩
  rcases h.2 with h0 | ⟨g, cap, cur, hv, hbg, hg, rest⟩
  · exact .inl h0
  · refine .inr ⟨g, cap, cur, hv, hbg, ?_, rest⟩
    rw [hk g (by rw [hv]; rfl)]
    exact hg
theorem iwidth_any (k : Int) (t : ByteArray) (d : Int) (w : World) (ht : k = 1 → t.size ≤ 1000000000000000000) :
    Calls Tryd.prog 97 #[.agg #[.int .i64 k, .string t, .int .i64 d]] w fun e w' => e = .returned (.int .i64 (wdI ⟨k, t, d⟩ : Nat)) ∧ Below w.heap.size w w' := by
  obtain ⟨V, HV⟩ : ∃ V, Hid (wdI ⟨k, t, d⟩ = V) := ⟨_, rfl⟩
  rw [HV.out]
  unfold wdI at HV
  have hb := Lib.hid ((Below.refl w.heap.size w).alloc (Nat.le_refl _) (.cells #[.int .i64 k, .string t, .int .i64 d] 84))
  by_cases hk : k = 1
  · subst hk
    rw [if_pos rfl] at HV
    have ht2 := ht rfl
    clear ht
    go_enter Tryd.func97, Tryd.ntmps97
    go_wp2_with fail
    go_ret
    exact ⟨by rw [← HV.out]; rfl, hb.out⟩
  · rw [if_neg hk] at HV
    have t1 : (k == 1) = false := by simpa using hk
    go_enter Tryd.func97, Tryd.ntmps97
    go_wp2_with fail
    go_ret
    exact ⟨by rw [← HV.out]; rfl, hb.out⟩

set_option maxHeartbeats 2000000 in
theorem ilength_any (f : List Tk) (v : Value) (w : World) (h1 : RdT w v f) (hl : lenI f ≤ 1000000000000000000) (hfl : f.length ≤ 1000000) :
    Calls Tryd.prog 76 #[v] w fun e w' => e = .returned (.int .i64 (lenI f : Nat)) ∧ Below w.heap.size w w' := by
  obtain ⟨A, c, rfl, _, _⟩ := h1.shape
  have H1 := Lib.hid h1
  clear h1
  go_enter Tryd.func76, Tryd.ntmps76
  go_wp2_with fail
  obtain ⟨wo, HWO⟩ : ∃ wo, Hid (wo = w) := ⟨w, rfl⟩
  go_loopg [3, 5, 8] f.length (fun gk nv xv jv wr => ∃ k n : Nat, nv = .int .i64 n ∧ jv = .int .i64 k ∧ k ≤ f.length ∧ Hid (n = lenI (f.take k)) ∧ Hid (Below w.heap.size w wr) ∧ f.length - k ≤ gk)
  case atStart => exact ⟨0, 0, rfl, rfl, Nat.zero_le _, by show _ = _; rw [List.take_zero]; rfl, Below.refl _ _, by omega⟩
  case round =>
    clear HWO
    obtain ⟨k, n, rfl, rfl, hk, HN, HB, hgk⟩ := hrel
    by_cases hkl : k < f.length
    · have hki : (k : Int) < (f.length : Int) := by omega
      have hk0 : (0 : Int) ≤ (k : Int) := by omega
      obtain ⟨b, o, rfl, hbl, q1, q2, q3⟩ := RdT.at_ H1.out k hkl
      rw [← HB.out.cell (p := ⟨b, o + k * 3, none⟩) hbl] at q1
      rw [← HB.out.cell (p := ⟨b, o + k * 3 + 1, none⟩) hbl] at q2
      rw [← HB.out.cell (p := ⟨b, o + k * 3 + 2, none⟩) hbl] at q3
      have hsz := HB.out.size
      have hbl2 : b < wr.heap.size := by omega
      have hle := lenI_le f (k + 1)
      have hst := lenI_take f k hkl
      rw [hst, ← HN.out] at hle
      have HN2 : Hid (n + wdI f[k] = lenI (f.take (k + 1))) := by
        show _ = _
        rw [hst, ← HN.out]
      clear hst
      generalize f[k] = x at q1 q2 q3 HN2 hle
      obtain ⟨xk, xt, xd⟩ := x
      simp only at q1 q2 q3
      have hxs : xk = 1 → xt.size ≤ 1000000000000000000 := fun e => by
        have : wdI ⟨xk, xt, xd⟩ = xt.size := by unfold wdI; rw [if_pos e]
        omega
      have HWD := Lib.hid (fun u => iwidth_any xk xt xd u hxs)
      generalize wdI ⟨xk, xt, xd⟩ = z at HWD HN2 hle
      have hz1 : n + z ≤ 1000000000000000000 := by omega
      have HX : Hid ((wr.alloc (.cells #[.int .i64 xk, .string xt, .int .i64 xd] 84)).heap[wr.heap.size]? = some (.cells #[.int .i64 xk, .string xt, .int .i64 xd] 84)) := heap_alloc_new wr _
      have HB1 := Lib.hid (HB.out.alloc hsz (.cells #[.int .i64 xk, .string xt, .int .i64 xd] 84))
      clear hxs hle
      go_upto_region 5 with fail
      generalize wr.alloc (.cells #[.int .i64 xk, .string xt, .int .i64 xd] 84) = w3 at HX HB1 ⊢
      obtain ⟨q, hq⟩ : ∃ q, Hid (q = wr.heap.size) := ⟨_, rfl⟩
      rw [← hq.out] at HX ⊢
      have hql : q < w3.heap.size := (Array.getElem?_eq_some_iff.1 HX.out).1
      clear q1 q2 q3
      obtain ⟨x0, x1, x2, _⟩ := bx3 HX.out
      go_wp2_with (go_at_call 97; refine (HWD.out _).mono ?_; rintro e w4 ⟨rfl, hb4⟩; have HB4 := Lib.hid (HB1.out.trans (hb4.mono HB1.out.size)))
      go_roundg (f.length - (k + 1))
      case measure => omega
      case rel => exact ⟨k + 1, n + z, rfl, rfl, by omega, HN2.out, HB4.out, by omega⟩
    · obtain rfl : k = f.length := by omega
      have e : n = lenI f := by rw [HN.out, List.take_length]
      go_wp2_with fail
      go_ret
      exact ⟨by rw [← e]; rfl, HB.out⟩

theorem pcI_own (x : Tk) (a p q : Nat) : pcI x a p q = if max p a < min q (a + wdI x) then [⟨x.k, if x.k = 1 then x.t.extract (max p a - a) (min q (a + wdI x) - a) else x.t, x.d⟩] else [] := by
  unfold pcI wdI
  by_cases hx : x.k = 1
  · rw [if_neg (by omega), if_pos hx, if_pos hx]
    by_cases h : max p a < min q (a + x.t.size)
    · rw [if_pos h, if_pos (by omega), hx]
    · rw [if_neg h, if_neg (by omega)]
  · rw [if_pos hx, if_neg hx, if_neg hx]
    by_cases h : max p a < min q (a + 1)
    · rw [if_pos h, if_pos (by omega)]
    · rw [if_neg h, if_neg (by omega)]

set_option maxRecDepth 100000 in
set_option maxHeartbeats 8000000 in
theorem islice_any (f : List Tk) (v : Value) (p q : Nat) (w : World) (h1 : RdT w v f) (hl : lenI f ≤ 1000000000000000000) (hfl : f.length ≤ 1000000) (hpq : p ≤ q) (hq : q ≤ lenI f) :
    Calls Tryd.prog 78 #[v, .int .i64 (p : Int), .int .i64 (q : Int)] w (SlRet w (slI f 0 p q)) := by
  obtain ⟨R, HRR⟩ : ∃ R, Hid (R = SlRet w (slI f 0 p q)) := ⟨_, rfl⟩
  rw [← HRR.out]
  obtain ⟨A, c, rfl, _, _⟩ := h1.shape
  have HL := Lib.hid (ilength_any f _ w h1 hl hfl)
  have H1 := Lib.hid h1
  clear h1
  have hpi : ¬ (p : Int) < 0 := by omega
  have hqi : ¬ (q : Int) < (p : Int) := by omega
  have hqp : (p : Int) ≤ (q : Int) := by omega
  obtain ⟨n, hn⟩ : ∃ n, Hid (n = lenI f) := ⟨_, rfl⟩
  rw [← hn.out] at hl hq HL
  have hnq : ¬ (n : Int) < (q : Int) := by omega
  have hnqd : decide (n < q) = false := decide_eq_false (by omega)
  go_enter Tryd.func78, Tryd.ntmps78
  go_upto_region 6 with (go_at_call 76; refine HL.out.mono ?_; rintro e w1 ⟨rfl, hb1⟩; have HB1 := Lib.hid hb1)
  clear hb1
  obtain ⟨wo, HWO⟩ : ∃ wo, Hid (wo = w1) := ⟨w1, rfl⟩
  go_loopg [8, 9, 11, 12, 13, 14, 30] f.length (fun gk ov av xv nv lv hv jv wr => ∃ k at_ : Nat, av = .int .i64 at_ ∧ jv = .int .i64 k ∧ k ≤ f.length ∧ Hid (at_ = lenI (f.take k)) ∧ Hid (OwnE 84 tkC 3 wr w.heap.size ov (slI (f.take k) 0 p q)) ∧ Hid (Below w.heap.size w wr) ∧ f.length - k ≤ gk)
  case atStart => exact ⟨0, 0, rfl, rfl, Nat.zero_le _, by (show _ = _); rw [List.take_zero]; rfl, OwnE.nil, HB1.out, by omega⟩
  case round =>
    clear HWO HB1
    obtain ⟨k, a0, rfl, rfl, hk, HA, HO, HB, hgk⟩ := hrel
    by_cases hkl : k < f.length
    · have hki : (k : Int) < (f.length : Int) := by omega
      have hk0 : (0 : Int) ≤ (k : Int) := by omega
      obtain ⟨b, o, rfl, hbl, q1, q2, q3⟩ := RdT.at_ H1.out k hkl
      have hsz := HB.out.size
      rw [← HB.out.cell (p := ⟨b, o + k * 3, none⟩) hbl] at q1
      rw [← HB.out.cell (p := ⟨b, o + k * 3 + 1, none⟩) hbl] at q2
      rw [← HB.out.cell (p := ⟨b, o + k * 3 + 2, none⟩) hbl] at q3
      have hbl2 : b < wr.heap.size := by omega
      have hle := lenI_le f (k + 1)
      have HTK := Lib.hid (slI_take f p q k hkl)
      have HTL := Lib.hid (lenI_take f k hkl)
      rw [HTL.out, ← HA.out] at hle
      rw [← HA.out] at HTK HTL
      rw [pcI_own] at HTK
      have hol := slI_len (f.take k) 0 p q
      rw [List.length_take] at hol
      obtain ⟨Ao, co, hov⟩ := own_shape HO.out
      generalize hol0 : (slI (f.take k) 0 p q).length = no at hov hol
      subst hov
      have hol1 := Lib.hid hol0
      clear hol0
      have hol2 : no ≤ 1000000 := by omega
      clear hol
      generalize f[k] = x at q1 q2 q3 HTK HTL hle
      obtain ⟨xk, xt, xd⟩ := x
      simp only at q1 q2 q3
      rw [← hn.out] at hle
      have hw1 : xk = 1 → wdI ⟨xk, xt, xd⟩ = xt.size := fun e => by unfold wdI; rw [if_pos e]
      have hxs : xk = 1 → xt.size ≤ 1000000000000000000 := fun e => by have := hw1 e; omega
      have HWD := Lib.hid (fun u => iwidth_any xk xt xd u hxs)
      generalize wdI ⟨xk, xt, xd⟩ = z at HWD HTK HTL hle hw1
      have HW1 := Lib.hid hw1
      have hz1 : a0 + z ≤ 1000000000000000000 := by omega
      have HX : Hid ((wr.alloc (.cells #[.int .i64 xk, .string xt, .int .i64 xd] 84)).heap[wr.heap.size]? = some (.cells #[.int .i64 xk, .string xt, .int .i64 xd] 84)) := heap_alloc_new wr _
      have HB1 := Lib.hid (HB.out.alloc hsz (.cells #[.int .i64 xk, .string xt, .int .i64 xd] 84))
      have HO1 := Lib.hid (World.ownsRow.alloc HO.out (.cells #[.int .i64 xk, .string xt, .int .i64 xd] 84))
      clear hxs hle hw1
      go_upto_region 8 with fail
      generalize wr.alloc (.cells #[.int .i64 xk, .string xt, .int .i64 xd] 84) = w3 at HX HB1 HO1 ⊢
      obtain ⟨g, hg⟩ : ∃ g, Hid (g = wr.heap.size) := ⟨_, rfl⟩
      rw [← hg.out] at HX ⊢
      have hgl : g < w3.heap.size := (Array.getElem?_eq_some_iff.1 HX.out).1
      clear q1 q2 q3
      obtain ⟨x0, x1, x2, _⟩ := bx3 HX.out
      go_upto_region 9 with (go_at_call 97; refine (HWD.out _).mono ?_; rintro e w4 ⟨rfl, hb4⟩)
      have HB4 := Lib.hid (HB1.out.trans (hb4.mono HB1.out.size))
      have HX4 := Lib.hid ((hb4.block g hgl).trans HX.out)
      have HO4 := Lib.hid (own_below HO1.out hb4 (Nat.le_refl _))
      have HAN : Hid (a0 + z = lenI (f.take (k + 1))) := HTL.out.symm
      have hgl4 : g < w4.heap.size := (Array.getElem?_eq_some_iff.1 HX4.out).1
      have HLT : Hid (∀ j, (Value.slice Ao no co).ownBlock = some j → j < g) := fun j hj => by have := (HO.out.lt j hj).2; rw [hg.out]; exact this
      clear hb4 HX HB1 HO1 x0 x1 x2 HWD hgl HO HB HTL
      go_upto_region 10 with fail
      rw [show max (p : Int) (a0 : Int) = ((max p a0 : Nat) : Int) by omega, show min (q : Int) ((a0 : Int) + (z : Int)) = ((min q (a0 + z) : Nat) : Int) by omega]
      have hlo : a0 ≤ max p a0 := by omega
      have hhi : min q (a0 + z) ≤ a0 + z := by omega
      generalize max p a0 = lo at HTK hlo ⊢
      generalize min q (a0 + z) = hi at HTK hhi ⊢
      obtain ⟨x0, x1, x2, y0, y1, y2⟩ := bx3 HX4.out
      by_cases hlh : lo < hi
      · have hlhi : (lo : Int) < (hi : Int) := by omega
        rw [if_pos hlh] at HTK
        by_cases hx : xk = 1
        · subst hx
          rw [if_pos rfl] at HTK
          have hzs : xt.size = z := (HW1.out rfl).symm
          obtain ⟨y, hy⟩ : ∃ y : ByteArray, Hid (y = xt.extract (lo - a0) (hi - a0)) := ⟨_, rfl⟩
          rw [← hy.out] at HTK
          have hsl : (Instr.sliceAt 9 (.string xt) (some (.int .i64 ((lo : Int) - (a0 : Int)))) (some (.int .i64 ((hi : Int) - (a0 : Int)))) none).run Tryd.prog w4 = .ok (.string y) w4 := by
            have h1 : (lo : Int) - (a0 : Int) = ((lo - a0 : Nat) : Int) := by omega
            have h2 : (hi : Int) - (a0 : Int) = ((hi - a0 : Nat) : Int) := by omega
            rw [h1, h2, hy.out]
            exact slice_str xt _ _ (by omega) (by omega) w4
          have HZS := Lib.hid hzs
          clear hzs
          have h3 : (hi : Int) - (a0 : Int) ≤ (xt.size : Int) := by have := HZS.out; omega
          go_upto_region 13 with fail
          have HXa : Hid ((w4.setCell ⟨g, 1, none⟩ (.string y)).heap[g]? = some (.cells #[.int .i64 1, .string y, .int .i64 xd] 84)) := set_rw1 HX4.out 1 _
          have HBa := Lib.hid (HB4.out.setCell (p := ⟨g, 1, none⟩) (by show _ ≤ g; have := hg.out; omega) (.string y))
          have HOa : Hid (OwnE 84 tkC 3 (w4.setCell ⟨g, 1, none⟩ (.string y)) w.heap.size (.slice Ao no co) (slI (f.take k) 0 p q)) := own_stay HO4.out (fun j hj => heap_setCell_other _ _ _ _ (fun e => by have := HLT.out j hj; have e2 : j = g := e; omega))
          clear x0 x1 x2 y0 y1 y2 hsl h3
          generalize w4.setCell ⟨g, 1, none⟩ (.string y) = w5 at HXa HBa HOa ⊢
          obtain ⟨x0, x1, x2, y0, y1, y2⟩ := bx3 HXa.out
          have hgl5 : g < w5.heap.size := (Array.getElem?_eq_some_iff.1 HXa.out).1
          have hzc := HBa.out.size
          have HOn := Lib.hid (World.ownsRow.alloc HOa.out (.cells (tkC ⟨1, y, xd⟩).toArray 84))
          go_wp2_with (at_builtin; go_must (refine wpList_app1 rfl (.tmp 60) (.tmp 62) 57 84 rfl Tryd.underlying57 _ 3 32 item_info rfl (by decide) w.heap.size (.slice Ao no co) no ((slI (f.take k) 0 p q).flatMap tkC) rfl (by have h := HOn.out; simp only [hol1.out] at h; exact h) ⟨w5.heap.size, 0, none⟩ 1 (tkC ⟨1, y, xd⟩) rfl rfl (by exact cells_new _ _ _) (tkC_one _) (by omega) (by decide) (by simp; omega) ?_); intro g9 cap9 w9 hown9 hg9 hbel9 hgr9)
          have HO9 : Hid (OwnE 84 tkC 3 w9 w.heap.size (.slice (some ⟨g9, 0, none⟩) (no + 1) cap9) (slI (f.take (k + 1)) 0 p q)) := by
            show OwnE _ _ _ _ _ _ _
            rw [HTK.out]
            refine OwnE.snoc (f := tkC) ?_
            rw [hol1.out]
            exact hown9
          have HB9 := Lib.hid (hbel9 _ _ (Nat.le_refl _) (HBa.out.alloc hzc (.cells (tkC ⟨1, y, xd⟩).toArray 84)))
          clear hown9 hbel9 hgr9 HOn
          go_wp2_with fail
          go_roundg (f.length - (k + 1))
          case measure => omega
          case rel => exact ⟨k + 1, a0 + z, rfl, rfl, by omega, HAN.out, HO9.out, HB9.out, by omega⟩
        · have t1 : (xk == 1) = false := by simpa using hx
          rw [if_neg hx] at HTK
          have HOa := HO4
          have HBa := HB4
          have hzc := HBa.out.size
          have HOn := Lib.hid (World.ownsRow.alloc HOa.out (.cells (tkC ⟨xk, xt, xd⟩).toArray 84))
          go_wp2_with (at_builtin; go_must (refine wpList_app1 rfl (.tmp 60) (.tmp 62) 57 84 rfl Tryd.underlying57 _ 3 32 item_info rfl (by decide) w.heap.size (.slice Ao no co) no ((slI (f.take k) 0 p q).flatMap tkC) rfl (by have h := HOn.out; simp only [hol1.out] at h; exact h) ⟨w4.heap.size, 0, none⟩ 1 (tkC ⟨xk, xt, xd⟩) rfl rfl (by exact cells_new _ _ _) (tkC_one _) (by omega) (by decide) (by simp; omega) ?_); intro g9 cap9 w9 hown9 hg9 hbel9 hgr9)
          have HO9 : Hid (OwnE 84 tkC 3 w9 w.heap.size (.slice (some ⟨g9, 0, none⟩) (no + 1) cap9) (slI (f.take (k + 1)) 0 p q)) := by
            show OwnE _ _ _ _ _ _ _
            rw [HTK.out]
            refine OwnE.snoc (f := tkC) ?_
            rw [hol1.out]
            exact hown9
          have HB9 := Lib.hid (hbel9 _ _ (Nat.le_refl _) (HBa.out.alloc hzc (.cells (tkC ⟨xk, xt, xd⟩).toArray 84)))
          clear hown9 hbel9 hgr9 HOn
          go_wp2_with fail
          go_roundg (f.length - (k + 1))
          case measure => omega
          case rel => exact ⟨k + 1, a0 + z, rfl, rfl, by omega, HAN.out, HO9.out, HB9.out, by omega⟩
      · have hlhi : ¬ (lo : Int) < (hi : Int) := by omega
        rw [if_neg hlh, List.append_nil] at HTK
        go_wp2_with fail
        go_roundg (f.length - (k + 1))
        case measure => omega
        case rel => exact ⟨k + 1, a0 + z, rfl, rfl, by omega, HAN.out, by (show OwnE _ _ _ _ _ _ _); rw [HTK.out]; exact HO4.out, HB4.out, by omega⟩
    · obtain rfl : k = f.length := by omega
      rw [List.take_length] at HO
      obtain ⟨Ao, co, hov⟩ := own_shape HO.out
      go_wp2_with fail
      rw [HRR.out]
      exact ⟨_, rfl, HO.out, HB.out⟩

end Go.Proofs.YtpboaadjbkaidaaDoor
