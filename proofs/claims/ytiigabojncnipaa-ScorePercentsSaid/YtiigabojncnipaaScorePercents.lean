
/-
  The walk of the law ScorePercents.
-/
import Derived.Test.YtiigabojncnipaaLaw13A
import Derived.Test.YtiigabojncnipaaLaw13B
import Derived.Test.YtiigabojncnipaaScoreB
import Derived.Test.YtiigabojncnipaaNearA
import Derived.Test.YtiigabojncnipaaSmall
import Derived.Test.YtiigabojncnipaaMakeA
import Derived.Test.YtiigabojncnipaaOpenTok
namespace Go.Proofs.Ytiigabojncnipaa
open Go.RowKit

set_option maxRecDepth 100000 in
set_option maxHeartbeats 8000000 in
theorem walk_ScorePercents (A0 : Option Addr) (n0 c0 : Nat) (a : List Tk) (A1 : Option Addr) (n1 c1 : Nat) (b : List Tk) (A2 : Option Addr) (n2 c2 : Nat) (l : List Int) (A3 : Option Addr) (n3 c3 : Nat) (m : List Int) (w : World) (h0 : ArgTS w A0 n0 c0 a) (h1 : ArgTS w A1 n1 c1 b) (h2 : n2 = l.length ∧ l.length ≤ maxLen ∧ RdE intC 1 w (.slice A2 n2 c2) l ∧ ∀ x ∈ l, IntIn x) (h3 : n3 = m.length ∧ m.length ≤ maxLen ∧ RdE intC 1 w (.slice A3 n3 c3) m ∧ ∀ x ∈ m, IntIn x) :
    Calls Try.prog 3 #[.slice A0 n0 c0, .slice A1 n1 c1, .slice A2 n2 c2, .slice A3 n3 c3] w fun e w' => e = .returned (.bool true) ∧ Below w.heap.size w w' := by
  obtain ⟨rfl, hl0, hr0, hi0⟩ := h0
  have HI0 := Lib.hid hi0
  have HR0 := Lib.hid hr0
  unfold maxLen at hl0
  clear hi0 hr0
  obtain ⟨rfl, hl1, hr1, hi1⟩ := h1
  have HI1 := Lib.hid hi1
  have HR1 := Lib.hid hr1
  unfold maxLen at hl1
  clear hi1 hr1
  obtain ⟨rfl, hl2, hr2, hi2⟩ := h2
  have HI2 := Lib.hid hi2
  have HR2 := Lib.hid hr2
  unfold maxLen at hl2
  clear hi2 hr2
  obtain ⟨rfl, hl3, hr3, hi3⟩ := h3
  have HI3 := Lib.hid hi3
  have HR3 := Lib.hid hr3
  unfold maxLen at hl3
  clear hi3 hr3
  by_cases ha : a.length ≤ 12 ∧ bytesOf a ≤ 300
  rotate_left
  · have HSA := Lib.hid (small13_no a 12 _ w HR0.out (by omega) HI0.out (by decide) ha)
    clear ha
    go_enter Try.func3, Try.ntmps3
    go_wp2_with fail
    refine (HSA.out).mono ?_
    rintro e w' ⟨rfl, rfl⟩
    go_wp2_with (go_at_call 10; refine (known13_any _).mono ?_; rintro e w' ⟨rfl, hb'⟩)
    go_ret
    exact ⟨rfl, hb'⟩
  have HSA := Lib.hid (small13_yes a 12 _ w HR0.out HI0.out (by decide) ha)
  have la := ha.1
  clear ha
  by_cases hb : b.length ≤ 12 ∧ bytesOf b ≤ 300
  rotate_left
  · have HSB := Lib.hid (small13_no b 12 _ w HR1.out (by omega) HI1.out (by decide) hb)
    clear hb
    go_enter Try.func3, Try.ntmps3
    go_wp2_with fail
    refine (HSA.out).mono ?_
    rintro e w' ⟨rfl, rfl⟩
    go_wp2_with fail
    refine (HSB.out).mono ?_
    rintro e w' ⟨rfl, rfl⟩
    go_wp2_with (go_at_call 10; refine (known13_any _).mono ?_; rintro e w' ⟨rfl, hb'⟩)
    go_ret
    exact ⟨rfl, hb'⟩
  have HSB := Lib.hid (small13_yes b 12 _ w HR1.out HI1.out (by decide) hb)
  have lb := hb.1
  clear hb
  by_cases k2 : 60 < l.length
  · go_enter Try.func3, Try.ntmps3
    go_wp2_with fail
    refine (HSA.out).mono ?_
    rintro e w' ⟨rfl, rfl⟩
    go_wp2_with fail
    refine (HSB.out).mono ?_
    rintro e w' ⟨rfl, rfl⟩
    go_wp2_with (go_at_call 10; refine (known13_any _).mono ?_; rintro e w' ⟨rfl, hb'⟩)
    go_ret
    exact ⟨rfl, hb'⟩
  by_cases k3 : 60 < m.length
  · go_enter Try.func3, Try.ntmps3
    go_wp2_with fail
    refine (HSA.out).mono ?_
    rintro e w' ⟨rfl, rfl⟩
    go_wp2_with fail
    refine (HSB.out).mono ?_
    rintro e w' ⟨rfl, rfl⟩
    go_wp2_with (go_at_call 10; refine (known13_any _).mono ?_; rintro e w' ⟨rfl, hb'⟩)
    go_ret
    exact ⟨rfl, hb'⟩
  have M2 := mk_made l 16
  have HM2 := Lib.hid (fun (w : World) (h : RdE intC 1 w (.slice A2 l.length c2) l) => made13_any l 16 _ w h HI2.out (by decide))
  generalize mkT l 16 = pc at M2 HM2
  have L2 := M2.len
  have T2 := Lib.hid M2.toD
  have T0 := Lib.hid (fun x hx => (HI0.out x hx).toD)
  have T1 := Lib.hid (fun x hx => (HI1.out x hx).toD)
  have CP := Lib.hid (fun (v u : Value) (w : World) (h : RdT w v a) (h' : RdT w u b) => percent_any a b v u w h h' (by omega) (by omega) T0.out T1.out)
  have CQ := Lib.hid (fun (v u : Value) (w : World) (h : RdT w v a) (h' : RdT w u b) => rpercent_any a b v u w h h' (by omega) (by omega) T0.out T1.out)
  have CB := Lib.hid (fun (v u : Value) (w : World) (h : RdT w v a) (h' : RdT w u b) => both_any a b v u w h h' (by omega) (by omega) )
  have CC := Lib.hid (fun (v u : Value) (w : World) (h : RdT w v a) (h' : RdT w u b) => rboth_any a b v u w h h' (by omega) (by omega) )
  generalize percI (bothI a b) (distI a b) = P at CP CQ
  generalize bothI a b = t at CB CC
  go_enter Try.func3, Try.ntmps3
  go_wp2_with fail
  refine (HSA.out).mono ?_
  rintro e w' ⟨rfl, rfl⟩
  go_wp2_with fail
  refine (HSB.out).mono ?_
  rintro e w' ⟨rfl, rfl⟩
  clear HSA HSB
  have B0 := Lib.hid (Below.refl w.heap.size w)
  have z0 : w.heap.size ≤ w.heap.size := Nat.le_refl _
  have RX_0 := Lib.hid HR0.out
  have RY_0 := Lib.hid HR1.out
  have RL_0 := Lib.hid HR2.out
  have RM_0 := Lib.hid HR3.out
  go_wp2_with fail
  refine (HM2.out _ (by exact RL_0.out)).mono ?_
  rintro e w1 ⟨vpc, rfl, hown, hb⟩
  have Rpc_1 := Lib.hid (OwnE.rd tkC_three hown)
  obtain ⟨Apc, cpc, hv⟩ := own_shape hown
  subst hv
  have B1 := Lib.hid (B0.out.trans (Below.mono (hb) z0))
  have z1 := B1.out.size
  have RX_1 := Lib.hid (RdE.below RX_0.out (hb) (Nat.le_refl _))
  have RY_1 := Lib.hid (RdE.below RY_0.out (hb) (Nat.le_refl _))
  have RM_1 := Lib.hid (RdE.below RM_0.out (hb) (Nat.le_refl _))
  clear B0 RX_0 RY_0 RL_0 RM_0
  clear hown hb
  go_wp2_with fail
  refine (near_any pc m _ _ _ (by exact Rpc_1.out) (by exact RM_1.out) HI3.out (by omega) M2.sz M2.wt).mono ?_
  rintro e w2 ⟨pd, ND, vpd, rfl, hown, hb⟩
  have HND := Lib.hid ND
  have LN := ND.len
  have Rpd_2 := Lib.hid (OwnE.rd tkC_three hown)
  obtain ⟨Apd, cpd, hv⟩ := own_shape hown
  subst hv
  have TD := Lib.hid ND.toD
  clear ND
  have B2 := Lib.hid (B1.out.trans (Below.mono (hb) z1))
  have z2 := B2.out.size
  have RX_2 := Lib.hid (RdE.below RX_1.out (hb) (Nat.le_refl _))
  have RY_2 := Lib.hid (RdE.below RY_1.out (hb) (Nat.le_refl _))
  have Rpc_2 := Lib.hid (RdE.below Rpc_1.out (hb) (Nat.le_refl _))
  clear B1 RX_1 RY_1 RM_1 Rpc_1
  clear hown hb
  have DP := Lib.hid (fun (v u : Value) (w : World) (h : RdT w v pc) (h' : RdT w u pd) => percent_any pc pd v u w h h' (by omega) (by omega) T2.out TD.out)
  have DQ := Lib.hid (fun (v u : Value) (w : World) (h : RdT w v pc) (h' : RdT w u pd) => rpercent_any pc pd v u w h h' (by omega) (by omega) T2.out TD.out)
  have DB := Lib.hid (fun (v u : Value) (w : World) (h : RdT w v pc) (h' : RdT w u pd) => both_any pc pd v u w h h' (by omega) (by omega) )
  have DC := Lib.hid (fun (v u : Value) (w : World) (h : RdT w v pc) (h' : RdT w u pd) => rboth_any pc pd v u w h h' (by omega) (by omega) )
  generalize percI (bothI pc pd) (distI pc pd) = P2 at DP DQ
  generalize bothI pc pd = t2 at DB DC
  go_wp2_with fail
  refine (CP.out _ _ _ (by exact RX_2.out) (by exact RY_2.out)).mono ?_
  rintro e w3 ⟨rfl, hb⟩
  have B3 := Lib.hid (B2.out.trans (Below.mono (hb) z2))
  have z3 := B3.out.size
  have RX_3 := Lib.hid (RdE.below RX_2.out (hb) (Nat.le_refl _))
  have RY_3 := Lib.hid (RdE.below RY_2.out (hb) (Nat.le_refl _))
  have Rpc_3 := Lib.hid (RdE.below Rpc_2.out (hb) (Nat.le_refl _))
  have Rpd_3 := Lib.hid (RdE.below Rpd_2.out (hb) (Nat.le_refl _))
  clear B2 RX_2 RY_2 Rpc_2 Rpd_2
  clear hb
  go_wp2_with fail
  refine (CQ.out _ _ _ (by exact RX_3.out) (by exact RY_3.out)).mono ?_
  rintro e w4 ⟨rfl, hb⟩
  have B4 := Lib.hid (B3.out.trans (Below.mono (hb) z3))
  have z4 := B4.out.size
  have RX_4 := Lib.hid (RdE.below RX_3.out (hb) (Nat.le_refl _))
  have RY_4 := Lib.hid (RdE.below RY_3.out (hb) (Nat.le_refl _))
  have Rpc_4 := Lib.hid (RdE.below Rpc_3.out (hb) (Nat.le_refl _))
  have Rpd_4 := Lib.hid (RdE.below Rpd_3.out (hb) (Nat.le_refl _))
  clear B3 RX_3 RY_3 Rpc_3 Rpd_3
  clear hb
  go_wp2_with fail
  refine (DP.out _ _ _ (by exact Rpc_4.out) (by exact Rpd_4.out)).mono ?_
  rintro e w5 ⟨rfl, hb⟩
  have B5 := Lib.hid (B4.out.trans (Below.mono (hb) z4))
  have z5 := B5.out.size
  have RX_5 := Lib.hid (RdE.below RX_4.out (hb) (Nat.le_refl _))
  have RY_5 := Lib.hid (RdE.below RY_4.out (hb) (Nat.le_refl _))
  have Rpc_5 := Lib.hid (RdE.below Rpc_4.out (hb) (Nat.le_refl _))
  have Rpd_5 := Lib.hid (RdE.below Rpd_4.out (hb) (Nat.le_refl _))
  clear B4 RX_4 RY_4 Rpc_4 Rpd_4
  clear hb
  go_wp2_with fail
  refine (DQ.out _ _ _ (by exact Rpc_5.out) (by exact Rpd_5.out)).mono ?_
  rintro e w6 ⟨rfl, hb⟩
  have B6 := Lib.hid (B5.out.trans (Below.mono (hb) z5))
  have z6 := B6.out.size
  have RX_6 := Lib.hid (RdE.below RX_5.out (hb) (Nat.le_refl _))
  have RY_6 := Lib.hid (RdE.below RY_5.out (hb) (Nat.le_refl _))
  have Rpc_6 := Lib.hid (RdE.below Rpc_5.out (hb) (Nat.le_refl _))
  have Rpd_6 := Lib.hid (RdE.below Rpd_5.out (hb) (Nat.le_refl _))
  clear B5 RX_5 RY_5 Rpc_5 Rpd_5
  clear hb
  go_wp2_with fail
  refine (CB.out _ _ _ (by exact RX_6.out) (by exact RY_6.out)).mono ?_
  rintro e w7 ⟨rfl, hb⟩
  have B7 := Lib.hid (B6.out.trans (Below.mono (hb) z6))
  have z7 := B7.out.size
  have RX_7 := Lib.hid (RdE.below RX_6.out (hb) (Nat.le_refl _))
  have RY_7 := Lib.hid (RdE.below RY_6.out (hb) (Nat.le_refl _))
  have Rpc_7 := Lib.hid (RdE.below Rpc_6.out (hb) (Nat.le_refl _))
  have Rpd_7 := Lib.hid (RdE.below Rpd_6.out (hb) (Nat.le_refl _))
  clear B6 RX_6 RY_6 Rpc_6 Rpd_6
  clear hb
  go_wp2_with fail
  refine (CC.out _ _ _ (by exact RX_7.out) (by exact RY_7.out)).mono ?_
  rintro e w8 ⟨rfl, hb⟩
  have B8 := Lib.hid (B7.out.trans (Below.mono (hb) z7))
  have z8 := B8.out.size
  have RX_8 := Lib.hid (RdE.below RX_7.out (hb) (Nat.le_refl _))
  have RY_8 := Lib.hid (RdE.below RY_7.out (hb) (Nat.le_refl _))
  have Rpc_8 := Lib.hid (RdE.below Rpc_7.out (hb) (Nat.le_refl _))
  have Rpd_8 := Lib.hid (RdE.below Rpd_7.out (hb) (Nat.le_refl _))
  clear B7 RX_7 RY_7 Rpc_7 Rpd_7
  clear hb
  go_wp2_with fail
  refine (DB.out _ _ _ (by exact Rpc_8.out) (by exact Rpd_8.out)).mono ?_
  rintro e w9 ⟨rfl, hb⟩
  have B9 := Lib.hid (B8.out.trans (Below.mono (hb) z8))
  have z9 := B9.out.size
  have RX_9 := Lib.hid (RdE.below RX_8.out (hb) (Nat.le_refl _))
  have RY_9 := Lib.hid (RdE.below RY_8.out (hb) (Nat.le_refl _))
  have Rpc_9 := Lib.hid (RdE.below Rpc_8.out (hb) (Nat.le_refl _))
  have Rpd_9 := Lib.hid (RdE.below Rpd_8.out (hb) (Nat.le_refl _))
  clear B8 RX_8 RY_8 Rpc_8 Rpd_8
  clear hb
  go_wp2_with fail
  refine (DC.out _ _ _ (by exact Rpc_9.out) (by exact Rpd_9.out)).mono ?_
  rintro e w10 ⟨rfl, hb⟩
  have B10 := Lib.hid (B9.out.trans (Below.mono (hb) z9))
  have z10 := B10.out.size
  have RX_10 := Lib.hid (RdE.below RX_9.out (hb) (Nat.le_refl _))
  have RY_10 := Lib.hid (RdE.below RY_9.out (hb) (Nat.le_refl _))
  have Rpc_10 := Lib.hid (RdE.below Rpc_9.out (hb) (Nat.le_refl _))
  have Rpd_10 := Lib.hid (RdE.below Rpd_9.out (hb) (Nat.le_refl _))
  clear B9 RX_9 RY_9 Rpc_9 Rpd_9
  clear hb
  go_wp2_with (go_at_call 10; refine (known13_any _).mono ?_; rintro e w' ⟨rfl, hb'⟩)
  go_ret
  exact ⟨rfl, B10.out.trans (hb'.mono z10)⟩

end Go.Proofs.Ytiigabojncnipaa
