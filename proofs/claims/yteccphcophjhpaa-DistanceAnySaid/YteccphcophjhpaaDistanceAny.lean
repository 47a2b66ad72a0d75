
/-
  The walk of the law DistanceAny.
-/
import Derived.Test.YteccphcophjhpaaLaw12B
import Derived.Test.YteccphcophjhpaaAlignP
import Derived.Test.YteccphcophjhpaaAlignR
import Derived.Test.YteccphcophjhpaaDistD
import Derived.Test.YteccphcophjhpaaEdEq
import Derived.Test.YteccphcophjhpaaSmall
namespace Go.Proofs.Yteccphcophjhpaa
open Go.RowKit

set_option maxRecDepth 100000 in
set_option maxHeartbeats 8000000 in
theorem walk_DistanceAny (A0 : Option Addr) (n0 c0 : Nat) (a : List Tk) (A1 : Option Addr) (n1 c1 : Nat) (b : List Tk) (w : World) (h0 : ArgTS w A0 n0 c0 a) (h1 : ArgTS w A1 n1 c1 b) :
    Calls Try.prog 10 #[.slice A0 n0 c0, .slice A1 n1 c1] w fun e w' => e = .returned (.bool true) ∧ Below w.heap.size w w' := by
  obtain ⟨rfl, hl0, hr0, hi0⟩ := h0
  obtain ⟨rfl, hl1, hr1, hi1⟩ := h1
  have HI0 := Lib.hid hi0
  have HI1 := Lib.hid hi1
  have HR0 := Lib.hid hr0
  have HR1 := Lib.hid hr1
  unfold maxLen at hl0 hl1
  clear hi0 hi1 hr0 hr1
  by_cases ha : a.length ≤ 12 ∧ bytesOf a ≤ 300
  · have HSA := Lib.hid (small12_yes a 12 _ w HR0.out HI0.out (by decide) ha)
    by_cases hb : b.length ≤ 12 ∧ bytesOf b ≤ 300
    · have HSB := Lib.hid (small12_yes b 12 _ w HR1.out HI1.out (by decide) hb)
      have la := ha.1
      have lb := hb.1
      clear ha hb
      have CP0 := Lib.hid (fun (v u : Value) (w : World) (h : RdT w v a) (h' : RdT w u b) => dist_any a b v u w h h' (by omega) (by omega) (fun x hx => (HI0.out x hx).toD) (fun x hx => (HI1.out x hx).toD))
      have CR0 := Lib.hid (fun (v u : Value) (w : World) (h : RdT w v a) (h' : RdT w u b) => rdist_any a b v u w h h' (by omega) (by omega) (fun x hx => (HI0.out x hx).toD) (fun x hx => (HI1.out x hx).toD))
      have AP0 := Lib.hid (fun (v u : Value) (w : World) (h : RdT w v a) (h' : RdT w u b) => align_any a b v u w h h' (by omega) (by omega) (fun x hx => (HI0.out x hx).toD) (fun x hx => (HI1.out x hx).toD))
      have AR0 := Lib.hid (fun (v u : Value) (w : World) (h : RdT w v a) (h' : RdT w u b) => ralign_any a b v u w h h' (by omega) (by omega) (fun x hx => (HI0.out x hx).toD) (fun x hx => (HI1.out x hx).toD))
      have AL0 := aln_len a b
      generalize distI a b = dv0 at CP0 CR0
      generalize alnL a b = S0 at AP0 AR0 AL0
      have SE0 := Lib.hid (fun (v u : Value) (w : World) (h : RdEd w v S0) (h' : RdEd w u S0) => sameEd_yes S0 v u w h h' (by omega))
      go_enter Try.func10, Try.ntmps10
      go_wp2_with fail
      refine (HSA.out).mono ?_
      rintro e w' ⟨rfl, rfl⟩
      go_wp2_with fail
      refine (HSB.out).mono ?_
      rintro e w' ⟨rfl, rfl⟩
      clear HSA HSB
      have B0 := Lib.hid (Below.refl w.heap.size w)
      have z0 : w.heap.size ≤ w.heap.size := Nat.le_refl _
      have RX_0 := Lib.hid HR0.out
      have RY_0 := Lib.hid HR1.out
      go_wp2_with fail
      refine (CP0.out _ _ _ (by exact RX_0.out) (by exact RY_0.out)).mono ?_
      rintro e w1 ⟨rfl, hb⟩
      have B1 := Lib.hid (B0.out.trans (Below.mono (hb) z0))
      have z1 := B1.out.size
      have RX_1 := Lib.hid (RdE.below RX_0.out (hb) (Nat.le_refl _))
      have RY_1 := Lib.hid (RdE.below RY_0.out (hb) (Nat.le_refl _))
      clear B0 RX_0 RY_0
      clear hb
      go_wp2_with fail
      refine (CR0.out _ _ _ (by exact RX_1.out) (by exact RY_1.out)).mono ?_
      rintro e w2 ⟨rfl, hb⟩
      have B2 := Lib.hid (B1.out.trans (Below.mono (hb) z1))
      have z2 := B2.out.size
      have RX_2 := Lib.hid (RdE.below RX_1.out (hb) (Nat.le_refl _))
      have RY_2 := Lib.hid (RdE.below RY_1.out (hb) (Nat.le_refl _))
      clear B1 RX_1 RY_1
      clear hb
      go_wp2_with fail
      refine (AP0.out _ _ _ (by exact RX_2.out) (by exact RY_2.out)).mono ?_
      rintro e w3 ⟨vP, rfl, hown, hb⟩
      have RP_3 := Lib.hid (OwnE.rd edC_two hown)
      obtain ⟨AP, cP, hv⟩ := own_shape hown
      subst hv
      have B3 := Lib.hid (B2.out.trans (Below.mono (hb) z2))
      have z3 := B3.out.size
      have RX_3 := Lib.hid (RdE.below RX_2.out (hb) (Nat.le_refl _))
      have RY_3 := Lib.hid (RdE.below RY_2.out (hb) (Nat.le_refl _))
      clear B2 RX_2 RY_2
      clear hown hb
      go_wp2_with fail
      refine (AR0.out _ _ _ (by exact RX_3.out) (by exact RY_3.out)).mono ?_
      rintro e w4 ⟨vQ, rfl, hown, hb⟩
      have RQ_4 := Lib.hid (OwnE.rd edC_two hown)
      obtain ⟨AQ, cQ, hv⟩ := own_shape hown
      subst hv
      have B4 := Lib.hid (B3.out.trans (Below.mono (hb) z3))
      have z4 := B4.out.size
      have RP_4 := Lib.hid (RdE.below RP_3.out (hb) (Nat.le_refl _))
      clear B3 RX_3 RY_3 RP_3
      clear hown hb
      go_wp2_with fail
      refine (SE0.out _ _ _ (by exact RP_4.out) (by exact RQ_4.out)).mono ?_
      rintro e w5 ⟨rfl, n5, hw⟩
      have hb : Below w4.heap.size w4 w5 := by rw [hw]; exact below_drewN (Below.refl _ _) _
      have B5 := Lib.hid (B4.out.trans (Below.mono (hb) z4))
      have z5 := B5.out.size
      clear B4 RP_4 RQ_4
      clear hb hw
      go_wp2_with (go_at_call 12; refine (known12_any _).mono ?_; rintro e w' ⟨rfl, hb'⟩)
      go_ret
      exact ⟨rfl, B5.out.trans (hb'.mono z5)⟩
    · have HSB := Lib.hid (small12_no b 12 _ w HR1.out (by omega) HI1.out (by decide) hb)
      clear hb ha
      go_enter Try.func10, Try.ntmps10
      go_wp2_with fail
      refine (HSA.out).mono ?_
      rintro e w' ⟨rfl, rfl⟩
      go_wp2_with fail
      refine (HSB.out).mono ?_
      rintro e w' ⟨rfl, rfl⟩
      go_wp2_with (go_at_call 12; refine (known12_any _).mono ?_; rintro e w' ⟨rfl, hb'⟩)
      go_ret
      exact ⟨rfl, hb'⟩
  · have HSA := Lib.hid (small12_no a 12 _ w HR0.out (by omega) HI0.out (by decide) ha)
    clear ha
    go_enter Try.func10, Try.ntmps10
    go_wp2_with fail
    refine (HSA.out).mono ?_
    rintro e w' ⟨rfl, rfl⟩
    go_wp2_with (go_at_call 12; refine (known12_any _).mono ?_; rintro e w' ⟨rfl, hb'⟩)
    go_ret
    exact ⟨rfl, hb'⟩

end Go.Proofs.Yteccphcophjhpaa
