
/-
  The walk of the law DistanceSays.
-/
import Derived.Test.YteccphcophjhpaaLaw12B
import Derived.Test.YteccphcophjhpaaAlignP
import Derived.Test.YteccphcophjhpaaAlignR
import Derived.Test.YteccphcophjhpaaDistD
import Derived.Test.YteccphcophjhpaaEdEq
import Derived.Test.YteccphcophjhpaaChangeA
import Derived.Test.YteccphcophjhpaaOpenTok
namespace Go.Proofs.Yteccphcophjhpaa
open Go.RowKit

set_option maxRecDepth 100000 in
set_option maxHeartbeats 8000000 in
theorem walk_DistanceSays (A0 : Option Addr) (n0 c0 : Nat) (l : List Int) (A1 : Option Addr) (n1 c1 : Nat) (m : List Int) (at0 to0 how0 : Int) (w : World) (h0 : n0 = l.length ∧ l.length ≤ maxLen ∧ RdE intC 1 w (.slice A0 n0 c0) l ∧ ∀ x ∈ l, IntIn x) (h1 : n1 = m.length ∧ m.length ≤ maxLen ∧ RdE intC 1 w (.slice A1 n1 c1) m ∧ ∀ x ∈ m, IntIn x) (h2' : (Lit.int .i64 at0).wf = true) (h3' : (Lit.int .i64 to0).wf = true) (h4' : (Lit.int .i64 how0).wf = true) :
    Calls Try.prog 9 #[.slice A0 n0 c0, .slice A1 n1 c1, .int .i64 at0, .int .i64 to0, .int .i64 how0] w fun e w' => e = .returned (.bool true) ∧ Below w.heap.size w w' := by
  have h2 : IntIn at0 := wf_i64 h2'
  have h3 : IntIn to0 := wf_i64 h3'
  have h4 : IntIn how0 := wf_i64 h4'
  clear h2' h3' h4'
  obtain ⟨rfl, hl0, hr0, hi0⟩ := h0
  obtain ⟨rfl, hl1, hr1, hi1⟩ := h1
  have HI0 := Lib.hid hi0
  have HI1 := Lib.hid hi1
  unfold maxLen at hl0 hl1
  clear hi0 hi1
  by_cases k0 : 60 < l.length
  · go_enter Try.func9, Try.ntmps9
    go_wp2_with (go_at_call 12; refine (known12_any _).mono ?_; rintro e w' ⟨rfl, hb'⟩)
    go_ret
    exact ⟨rfl, hb'⟩
  by_cases k1 : 60 < m.length
  · go_enter Try.func9, Try.ntmps9
    go_wp2_with (go_at_call 12; refine (known12_any _).mono ?_; rintro e w' ⟨rfl, hb'⟩)
    go_ret
    exact ⟨rfl, hb'⟩
  have M0 := mk_made l 16
  have HM0 := Lib.hid (fun (w : World) (h : RdE intC 1 w (.slice A0 l.length c0) l) => made12_any l 16 _ w h HI0.out (by decide))
  generalize mkT l 16 = a at M0 HM0
  have M1 := mk_made m 16
  have HM1 := Lib.hid (fun (w : World) (h : RdE intC 1 w (.slice A1 m.length c1) m) => made12_any m 16 _ w h HI1.out (by decide))
  generalize mkT m 16 = b at M1 HM1
  have L0 := M0.len
  have L1 := M1.len
  have D0 := Lib.hid M0.toD
  have D1 := Lib.hid M1.toD
  have HCH := Lib.hid (fun (v : Value) (w : World) (h : RdT w v a) => changed_any a at0 to0 how0 v w h h2 h3 h4 (by omega) M0.sz (fun x hx => (M0.toD x hx).2))
  clear M0 M1 h2 h3 h4
  have CP0 := Lib.hid (fun (v u : Value) (w : World) (h : RdT w v a) (h' : RdT w u b) => dist_any a b v u w h h' (by omega) (by omega) D0.out D1.out)
  have CR0 := Lib.hid (fun (v u : Value) (w : World) (h : RdT w v a) (h' : RdT w u b) => rdist_any a b v u w h h' (by omega) (by omega) D0.out D1.out)
  have AP0 := Lib.hid (fun (v u : Value) (w : World) (h : RdT w v a) (h' : RdT w u b) => align_any a b v u w h h' (by omega) (by omega) D0.out D1.out)
  have AR0 := Lib.hid (fun (v u : Value) (w : World) (h : RdT w v a) (h' : RdT w u b) => ralign_any a b v u w h h' (by omega) (by omega) D0.out D1.out)
  have AL0 := aln_len a b
  generalize distI a b = dv0 at CP0 CR0
  generalize alnL a b = S0 at AP0 AR0 AL0
  have SE0 := Lib.hid (fun (v u : Value) (w : World) (h : RdEd w v S0) (h' : RdEd w u S0) => sameEd_yes S0 v u w h h' (by omega))
  go_enter Try.func9, Try.ntmps9
  have B0 := Lib.hid (Below.refl w.heap.size w)
  have z0 : w.heap.size ≤ w.heap.size := Nat.le_refl _
  have RL_0 := Lib.hid hr0
  have RM_0 := Lib.hid hr1
  clear hr0 hr1
  go_wp2_with fail
  refine (HM0.out _ (by exact RL_0.out)).mono ?_
  rintro e w1 ⟨va, rfl, hown, hb⟩
  have Ra_1 := Lib.hid (OwnE.rd tkC_three hown)
  obtain ⟨Aa, ca, hv⟩ := own_shape hown
  subst hv
  have B1 := Lib.hid (B0.out.trans (Below.mono (hb) z0))
  have z1 := B1.out.size
  have RM_1 := Lib.hid (RdE.below RM_0.out (hb) (Nat.le_refl _))
  clear B0 RL_0 RM_0
  clear hown hb
  go_wp2_with fail
  refine (HM1.out _ (by exact RM_1.out)).mono ?_
  rintro e w2 ⟨vb, rfl, hown, hb⟩
  have Rb_2 := Lib.hid (OwnE.rd tkC_three hown)
  obtain ⟨Ab, cb, hv⟩ := own_shape hown
  subst hv
  have B2 := Lib.hid (B1.out.trans (Below.mono (hb) z1))
  have z2 := B2.out.size
  have Ra_2 := Lib.hid (RdE.below Ra_1.out (hb) (Nat.le_refl _))
  clear B1 RM_1 Ra_1
  clear hown hb
  go_wp2_with fail
  refine (HCH.out _ _ (by exact Ra_2.out)).mono ?_
  rintro e w3 ⟨c, LC, DC, vc, rfl, hown, hb⟩
  have D2 := Lib.hid DC
  have Rc_3 := Lib.hid (OwnE.rd tkC_three hown)
  obtain ⟨Ac, cc, hv⟩ := own_shape hown
  subst hv
  clear DC
  have B3 := Lib.hid (B2.out.trans (Below.mono (hb) z2))
  have z3 := B3.out.size
  have Ra_3 := Lib.hid (RdE.below Ra_2.out (hb) (Nat.le_refl _))
  have Rb_3 := Lib.hid (RdE.below Rb_2.out (hb) (Nat.le_refl _))
  clear B2 Ra_2 Rb_2
  clear hown hb
  have CP1 := Lib.hid (fun (v u : Value) (w : World) (h : RdT w v a) (h' : RdT w u c) => dist_any a c v u w h h' (by omega) (by omega) D0.out D2.out)
  have CR1 := Lib.hid (fun (v u : Value) (w : World) (h : RdT w v a) (h' : RdT w u c) => rdist_any a c v u w h h' (by omega) (by omega) D0.out D2.out)
  have AP1 := Lib.hid (fun (v u : Value) (w : World) (h : RdT w v a) (h' : RdT w u c) => align_any a c v u w h h' (by omega) (by omega) D0.out D2.out)
  have AR1 := Lib.hid (fun (v u : Value) (w : World) (h : RdT w v a) (h' : RdT w u c) => ralign_any a c v u w h h' (by omega) (by omega) D0.out D2.out)
  have AL1 := aln_len a c
  generalize distI a c = dv1 at CP1 CR1
  generalize alnL a c = S1 at AP1 AR1 AL1
  have SE1 := Lib.hid (fun (v u : Value) (w : World) (h : RdEd w v S1) (h' : RdEd w u S1) => sameEd_yes S1 v u w h h' (by omega))
  go_wp2_with fail
  refine (CP0.out _ _ _ (by exact Ra_3.out) (by exact Rb_3.out)).mono ?_
  rintro e w4 ⟨rfl, hb⟩
  have B4 := Lib.hid (B3.out.trans (Below.mono (hb) z3))
  have z4 := B4.out.size
  have Ra_4 := Lib.hid (RdE.below Ra_3.out (hb) (Nat.le_refl _))
  have Rb_4 := Lib.hid (RdE.below Rb_3.out (hb) (Nat.le_refl _))
  have Rc_4 := Lib.hid (RdE.below Rc_3.out (hb) (Nat.le_refl _))
  clear B3 Ra_3 Rb_3 Rc_3
  clear hb
  go_wp2_with fail
  refine (CR0.out _ _ _ (by exact Ra_4.out) (by exact Rb_4.out)).mono ?_
  rintro e w5 ⟨rfl, hb⟩
  have B5 := Lib.hid (B4.out.trans (Below.mono (hb) z4))
  have z5 := B5.out.size
  have Ra_5 := Lib.hid (RdE.below Ra_4.out (hb) (Nat.le_refl _))
  have Rb_5 := Lib.hid (RdE.below Rb_4.out (hb) (Nat.le_refl _))
  have Rc_5 := Lib.hid (RdE.below Rc_4.out (hb) (Nat.le_refl _))
  clear B4 Ra_4 Rb_4 Rc_4
  clear hb
  go_wp2_with fail
  refine (CP1.out _ _ _ (by exact Ra_5.out) (by exact Rc_5.out)).mono ?_
  rintro e w6 ⟨rfl, hb⟩
  have B6 := Lib.hid (B5.out.trans (Below.mono (hb) z5))
  have z6 := B6.out.size
  have Ra_6 := Lib.hid (RdE.below Ra_5.out (hb) (Nat.le_refl _))
  have Rb_6 := Lib.hid (RdE.below Rb_5.out (hb) (Nat.le_refl _))
  have Rc_6 := Lib.hid (RdE.below Rc_5.out (hb) (Nat.le_refl _))
  clear B5 Ra_5 Rb_5 Rc_5
  clear hb
  go_wp2_with fail
  refine (CR1.out _ _ _ (by exact Ra_6.out) (by exact Rc_6.out)).mono ?_
  rintro e w7 ⟨rfl, hb⟩
  have B7 := Lib.hid (B6.out.trans (Below.mono (hb) z6))
  have z7 := B7.out.size
  have Ra_7 := Lib.hid (RdE.below Ra_6.out (hb) (Nat.le_refl _))
  have Rb_7 := Lib.hid (RdE.below Rb_6.out (hb) (Nat.le_refl _))
  have Rc_7 := Lib.hid (RdE.below Rc_6.out (hb) (Nat.le_refl _))
  clear B6 Ra_6 Rb_6 Rc_6
  clear hb
  go_wp2_with fail
  refine (AP0.out _ _ _ (by exact Ra_7.out) (by exact Rb_7.out)).mono ?_
  rintro e w8 ⟨vP, rfl, hown, hb⟩
  have RP_8 := Lib.hid (OwnE.rd edC_two hown)
  obtain ⟨AP, cP, hv⟩ := own_shape hown
  subst hv
  have B8 := Lib.hid (B7.out.trans (Below.mono (hb) z7))
  have z8 := B8.out.size
  have Ra_8 := Lib.hid (RdE.below Ra_7.out (hb) (Nat.le_refl _))
  have Rb_8 := Lib.hid (RdE.below Rb_7.out (hb) (Nat.le_refl _))
  have Rc_8 := Lib.hid (RdE.below Rc_7.out (hb) (Nat.le_refl _))
  clear B7 Ra_7 Rb_7 Rc_7
  clear hown hb
  go_wp2_with fail
  refine (AR0.out _ _ _ (by exact Ra_8.out) (by exact Rb_8.out)).mono ?_
  rintro e w9 ⟨vQ, rfl, hown, hb⟩
  have RQ_9 := Lib.hid (OwnE.rd edC_two hown)
  obtain ⟨AQ, cQ, hv⟩ := own_shape hown
  subst hv
  have B9 := Lib.hid (B8.out.trans (Below.mono (hb) z8))
  have z9 := B9.out.size
  have Ra_9 := Lib.hid (RdE.below Ra_8.out (hb) (Nat.le_refl _))
  have Rc_9 := Lib.hid (RdE.below Rc_8.out (hb) (Nat.le_refl _))
  have RP_9 := Lib.hid (RdE.below RP_8.out (hb) (Nat.le_refl _))
  clear B8 Ra_8 Rb_8 Rc_8 RP_8
  clear hown hb
  go_wp2_with fail
  refine (SE0.out _ _ _ (by exact RP_9.out) (by exact RQ_9.out)).mono ?_
  rintro e w10 ⟨rfl, n10, hw⟩
  have hb : Below w9.heap.size w9 w10 := by rw [hw]; exact below_drewN (Below.refl _ _) _
  have B10 := Lib.hid (B9.out.trans (Below.mono (hb) z9))
  have z10 := B10.out.size
  have Ra_10 := Lib.hid (RdE.below Ra_9.out (hb) (Nat.le_refl _))
  have Rc_10 := Lib.hid (RdE.below Rc_9.out (hb) (Nat.le_refl _))
  clear B9 Ra_9 Rc_9 RP_9 RQ_9
  clear hb hw
  go_wp2_with fail
  refine (AP1.out _ _ _ (by exact Ra_10.out) (by exact Rc_10.out)).mono ?_
  rintro e w11 ⟨vU, rfl, hown, hb⟩
  have RU_11 := Lib.hid (OwnE.rd edC_two hown)
  obtain ⟨AU, cU, hv⟩ := own_shape hown
  subst hv
  have B11 := Lib.hid (B10.out.trans (Below.mono (hb) z10))
  have z11 := B11.out.size
  have Ra_11 := Lib.hid (RdE.below Ra_10.out (hb) (Nat.le_refl _))
  have Rc_11 := Lib.hid (RdE.below Rc_10.out (hb) (Nat.le_refl _))
  clear B10 Ra_10 Rc_10
  clear hown hb
  go_wp2_with fail
  refine (AR1.out _ _ _ (by exact Ra_11.out) (by exact Rc_11.out)).mono ?_
  rintro e w12 ⟨vV, rfl, hown, hb⟩
  have RV_12 := Lib.hid (OwnE.rd edC_two hown)
  obtain ⟨AV, cV, hv⟩ := own_shape hown
  subst hv
  have B12 := Lib.hid (B11.out.trans (Below.mono (hb) z11))
  have z12 := B12.out.size
  have RU_12 := Lib.hid (RdE.below RU_11.out (hb) (Nat.le_refl _))
  clear B11 Ra_11 Rc_11 RU_11
  clear hown hb
  go_wp2_with fail
  refine (SE1.out _ _ _ (by exact RU_12.out) (by exact RV_12.out)).mono ?_
  rintro e w13 ⟨rfl, n13, hw⟩
  have hb : Below w12.heap.size w12 w13 := by rw [hw]; exact below_drewN (Below.refl _ _) _
  have B13 := Lib.hid (B12.out.trans (Below.mono (hb) z12))
  have z13 := B13.out.size
  clear B12 RU_12 RV_12
  clear hb hw
  go_wp2_with (go_at_call 12; refine (known12_any _).mono ?_; rintro e w' ⟨rfl, hb'⟩)
  go_ret
  exact ⟨rfl, B13.out.trans (hb'.mono z13)⟩
end Go.Proofs.Yteccphcophjhpaa
