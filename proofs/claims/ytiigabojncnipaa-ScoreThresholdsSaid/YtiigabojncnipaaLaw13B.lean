
/-
  Chapter 13: the fixed example.
-/
import Derived.Test.YtiigabojncnipaaLaw12B
import Derived.Test.YtiigabojncnipaaScoreA
namespace Go.Proofs.Ytiigabojncnipaa
open Go.RowKit

theorem perc_AB : percI (bothI tA tB) (distI tA tB) = 44 := by rw [dist_AB]; decide +kernel
theorem perc_nil : percI (bothI [] []) (distI [] []) = 100 := by decide +kernel
theorem allow_1 : allowI 9 44 = 5 := by decide +kernel
theorem allow_2 : allowI 9 45 = 4 := by decide +kernel

set_option maxHeartbeats 2000000 in
theorem known13_any (w : World) : Calls Try.prog 10 #[] w fun e w' => e = .returned (.bool true) ∧ Below w.heap.size w w' := by
  have ca := fun (v : Value) (w : World) (h : RdT w v [⟨1, kA, 0⟩]) => rtokens_any [⟨1, kA, 0⟩] v w h (by simp) (by decide)
  rw [tokens_A] at ca
  have CA := Lib.hid ca
  have cb := fun (v : Value) (w : World) (h : RdT w v [⟨1, kB, 0⟩]) => rtokens_any [⟨1, kB, 0⟩] v w h (by simp) (by decide)
  rw [tokens_B] at cb
  have CB := Lib.hid cb
  obtain ⟨d1, d2, d3, d4⟩ := td_small
  have c1 := fun (v u : Value) (w : World) (h : RdT w v tA) (h' : RdT w u tB) => percent_any tA tB v u w h h' (by decide) (by decide) d1 d2
  rw [perc_AB] at c1
  have c2 := fun (w : World) => percent_any [] [] (.slice none 0 0) (.slice none 0 0) w RdE.nil RdE.nil (by decide) (by decide) (by simp) (by simp)
  rw [perc_nil] at c2
  have C1 := Lib.hid c1
  have C2 := Lib.hid c2
  have c3 := fun (w : World) => allowed_any 9 44 w ⟨by decide, by decide⟩ ⟨by decide, by decide⟩
  rw [allow_1] at c3
  have C3 := Lib.hid c3
  have c4 := fun (w : World) => allowed_any 9 45 w ⟨by decide, by decide⟩ ⟨by decide, by decide⟩
  rw [allow_2] at c4
  have C4 := Lib.hid c4
  clear ca cb c1 c2 c3 c4 d1 d2 d3 d4
  go_enter Try.func10, Try.ntmps10
  have B0 := Lib.hid (Below.refl w.heap.size w)
  have z0 : w.heap.size ≤ w.heap.size := Nat.le_refl _
  go_wp2_with fail
  have B1 := Lib.hid (B0.out.trans (Below.mono ((Below.refl w.heap.size w).alloc (Nat.le_refl _) (.cells (tkC ⟨1, kA, 0⟩).toArray 46)) z0))
  have z1 := B1.out.size
  clear B0
  have RP_1 := Lib.hid (RdT.one_at w _ rfl ⟨1, kA, 0⟩ 46)
  refine (CA.out _ _ (by exact RP_1.out)).mono ?_
  rintro e w2 ⟨va, rfl, hown, hb⟩
  have Ra_2 := Lib.hid (OwnE.rd tkC_three hown)
  obtain ⟨Aa, ca, hv⟩ := own_shape hown
  subst hv
  have B2 := Lib.hid (B1.out.trans (Below.mono (hb) z1))
  have z2 := B2.out.size
  clear B1 RP_1
  clear hown hb
  go_wp2_with fail
  have B3 := Lib.hid (B2.out.trans (Below.mono ((Below.refl w2.heap.size w2).alloc (Nat.le_refl _) (.cells (tkC ⟨1, kB, 0⟩).toArray 46)) z2))
  have z3 := B3.out.size
  have Ra_3 := Lib.hid (RdE.below Ra_2.out ((Below.refl w2.heap.size w2).alloc (Nat.le_refl _) (.cells (tkC ⟨1, kB, 0⟩).toArray 46)) (Nat.le_refl _))
  clear B2 Ra_2
  have RQ_3 := Lib.hid (RdT.one_at w2 _ rfl ⟨1, kB, 0⟩ 46)
  refine (CB.out _ _ (by exact RQ_3.out)).mono ?_
  rintro e w4 ⟨vb, rfl, hown, hb⟩
  have Rb_4 := Lib.hid (OwnE.rd tkC_three hown)
  obtain ⟨Ab, cb, hv⟩ := own_shape hown
  subst hv
  have B4 := Lib.hid (B3.out.trans (Below.mono (hb) z3))
  have z4 := B4.out.size
  have Ra_4 := Lib.hid (RdE.below Ra_3.out (hb) (Nat.le_refl _))
  clear B3 Ra_3 RQ_3
  clear hown hb
  go_wp2_with fail
  refine (C1.out _ _ _ (by exact Ra_4.out) (by exact Rb_4.out)).mono ?_
  rintro e w5 ⟨rfl, hb⟩
  have B5 := Lib.hid (B4.out.trans (Below.mono (hb) z4))
  have z5 := B5.out.size
  clear B4 Ra_4 Rb_4
  clear hb
  go_wp2_with fail
  refine (C3.out _).mono ?_
  rintro e w' ⟨rfl, rfl⟩
  go_wp2_with fail
  refine (C4.out _).mono ?_
  rintro e w' ⟨rfl, rfl⟩
  go_wp2_with fail
  refine (C2.out _).mono ?_
  rintro e w6 ⟨rfl, hb⟩
  have B6 := Lib.hid (B5.out.trans (Below.mono (hb) z5))
  have z6 := B6.out.size
  clear B5
  clear hb
  go_wp2_with fail
  go_ret
  exact ⟨rfl, B6.out⟩

end Go.Proofs.Ytiigabojncnipaa
