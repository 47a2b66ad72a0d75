
/-
  The walk of the law ScoreThresholds.
-/
import Derived.Test.YtiigabojncnipaaLaw13A
import Derived.Test.YtiigabojncnipaaLaw13B
import Derived.Test.YtiigabojncnipaaScoreB
import Derived.Test.YtiigabojncnipaaNearA
import Derived.Test.YtiigabojncnipaaSmall
import Derived.Test.YtiigabojncnipaaMakeA
import Derived.Test.YtiigabojncnipaaOpenTok
namespace Go.Proofs.Ytiigabojncnipaa
open Go.RowKit

set_option maxRecDepth 100000 in
set_option maxHeartbeats 8000000 in
theorem walk_ScoreThresholds (A0 : Option Addr) (n0 c0 : Nat) (l : List Int) (A1 : Option Addr) (n1 c1 : Nat) (m : List Int) (pp : Int) (w : World) (h0 : n0 = l.length ∧ l.length ≤ maxLen ∧ RdE intC 1 w (.slice A0 n0 c0) l ∧ ∀ x ∈ l, IntIn x) (h1 : n1 = m.length ∧ m.length ≤ maxLen ∧ RdE intC 1 w (.slice A1 n1 c1) m ∧ ∀ x ∈ m, IntIn x) (h2' : (Lit.int .i64 pp).wf = true) :
    Calls Try.prog 5 #[.slice A0 n0 c0, .slice A1 n1 c1, .int .i64 pp] w fun e w' => e = .returned (.bool true) ∧ Below w.heap.size w w' := by
  have h2 : IntIn pp := wf_i64 h2'
  clear h2'
  obtain ⟨rfl, hl0, hr0, hi0⟩ := h0
  have HI0 := Lib.hid hi0
  have HR0 := Lib.hid hr0
  unfold maxLen at hl0
  clear hi0 hr0
  obtain ⟨rfl, hl1, hr1, hi1⟩ := h1
  have HI1 := Lib.hid hi1
  have HR1 := Lib.hid hr1
  unfold maxLen at hl1
  clear hi1 hr1
  by_cases k0 : 60 < l.length
  · go_enter Try.func5, Try.ntmps5
    go_wp2_with (go_at_call 10; refine (known13_any _).mono ?_; rintro e w' ⟨rfl, hb'⟩)
    go_ret
    exact ⟨rfl, hb'⟩
  by_cases k1 : 60 < m.length
  · go_enter Try.func5, Try.ntmps5
    go_wp2_with (go_at_call 10; refine (known13_any _).mono ?_; rintro e w' ⟨rfl, hb'⟩)
    go_ret
    exact ⟨rfl, hb'⟩
  have M0 := mk_made l 16
  have HM0 := Lib.hid (fun (w : World) (h : RdE intC 1 w (.slice A0 l.length c0) l) => made13_any l 16 _ w h HI0.out (by decide))
  generalize mkT l 16 = a at M0 HM0
  have L0 := M0.len
  have T0 := Lib.hid M0.toD
  have HPL := Lib.hid (fun w => place_any pp 100 w h2 (by decide) (by decide))
  have b1 := Int.emod_nonneg pp (show (100 : Int) ≠ 0 by decide)
  have b2 := Int.emod_lt_of_pos pp (show (0 : Int) < 100 by decide)
  generalize pp % 100 = pz at HPL b1 b2
  clear h2
  go_enter Try.func5, Try.ntmps5
  have B0 := Lib.hid (Below.refl w.heap.size w)
  have z0 : w.heap.size ≤ w.heap.size := Nat.le_refl _
  have RL_0 := Lib.hid HR0.out
  have RM_0 := Lib.hid HR1.out
  go_wp2_with fail
  refine (HM0.out _ (by exact RL_0.out)).mono ?_
  rintro e w1 ⟨va, rfl, hown, hb⟩
  have Ra_1 := Lib.hid (OwnE.rd tkC_three hown)
  obtain ⟨Aa, ca, hv⟩ := own_shape hown
  subst hv
  have B1 := Lib.hid (B0.out.trans (Below.mono (hb) z0))
  have z1 := B1.out.size
  have RM_1 := Lib.hid (RdE.below RM_0.out (hb) (Nat.le_refl _))
  clear B0 RL_0 RM_0
  clear hown hb
  go_wp2_with fail
  refine (near_any a m _ _ _ (by exact Ra_1.out) (by exact RM_1.out) HI1.out (by omega) M0.sz M0.wt).mono ?_
  rintro e w2 ⟨d, ND, vd, rfl, hown, hb⟩
  have HND := Lib.hid ND
  have LN := ND.len
  have Rd_2 := Lib.hid (OwnE.rd tkC_three hown)
  obtain ⟨Ad, cd, hv⟩ := own_shape hown
  subst hv
  have TD := Lib.hid ND.toD
  clear ND
  have B2 := Lib.hid (B1.out.trans (Below.mono (hb) z1))
  have z2 := B2.out.size
  have Ra_2 := Lib.hid (RdE.below Ra_1.out (hb) (Nat.le_refl _))
  clear B1 RM_1 Ra_1
  clear hown hb
  have hbb := both_bd a d (by omega) (by omega)
  have hd0 := distI_nonneg a d
  have hd1 := distI_bound a d
  have HRE := perc_reach (bothI a d) (distI a d) (1 + pz) (by omega) (by unfold apiMax; omega) hd0 (by unfold apiMax; omega) ⟨by omega, by omega⟩
  have CP := Lib.hid (fun (v u : Value) (w : World) (h : RdT w v a) (h' : RdT w u d) => percent_any a d v u w h h' (by omega) (by omega) T0.out TD.out)
  have CD := Lib.hid (fun (v u : Value) (w : World) (h : RdT w v a) (h' : RdT w u d) => rdist_any a d v u w h h' (by omega) (by omega) T0.out TD.out)
  have CB := Lib.hid (fun (v u : Value) (w : World) (h : RdT w v a) (h' : RdT w u d) => both_any a d v u w h h' (by omega) (by omega) )
  have CA := Lib.hid (fun w => allowed_any (bothI a d) (1 + pz) w ⟨by omega, by omega⟩ ⟨by omega, by omega⟩)
  generalize percI (bothI a d) (distI a d) = P at CP HRE
  generalize allowI (bothI a d) (1 + pz) = al at CA HRE
  generalize distI a d = D at CD HRE hd0 hd1
  generalize bothI a d = t at CB CA hbb
  have ew : IntKind.i64.wrap (1 + pz) = 1 + pz := by rw [IntKind.wrap_i64]; omega
  have HRE' := Lib.hid HRE
  clear HRE hd0 hd1 hbb
  by_cases hp : 1 + pz ≤ P
  · have hq := HRE'.out.1 hp
    clear HRE'
    go_wp2_with fail
    refine (HPL.out _).mono ?_
    rintro e w' ⟨rfl, rfl⟩
    go_wp2_with fail
    refine (CP.out _ _ _ (by exact Ra_2.out) (by exact Rd_2.out)).mono ?_
    rintro e w3 ⟨rfl, hb⟩
    have B3 := Lib.hid (B2.out.trans (Below.mono (hb) z2))
    have z3 := B3.out.size
    have Ra_3 := Lib.hid (RdE.below Ra_2.out (hb) (Nat.le_refl _))
    have Rd_3 := Lib.hid (RdE.below Rd_2.out (hb) (Nat.le_refl _))
    clear B2 Ra_2 Rd_2
    clear hb
    go_wp2_with fail
    refine (CD.out _ _ _ (by exact Ra_3.out) (by exact Rd_3.out)).mono ?_
    rintro e w4 ⟨rfl, hb⟩
    have B4 := Lib.hid (B3.out.trans (Below.mono (hb) z3))
    have z4 := B4.out.size
    have Ra_4 := Lib.hid (RdE.below Ra_3.out (hb) (Nat.le_refl _))
    have Rd_4 := Lib.hid (RdE.below Rd_3.out (hb) (Nat.le_refl _))
    clear B3 Ra_3 Rd_3
    clear hb
    go_wp2_with fail
    refine (CB.out _ _ _ (by exact Ra_4.out) (by exact Rd_4.out)).mono ?_
    rintro e w5 ⟨rfl, hb⟩
    have B5 := Lib.hid (B4.out.trans (Below.mono (hb) z4))
    have z5 := B5.out.size
    have Ra_5 := Lib.hid (RdE.below Ra_4.out (hb) (Nat.le_refl _))
    have Rd_5 := Lib.hid (RdE.below Rd_4.out (hb) (Nat.le_refl _))
    clear B4 Ra_4 Rd_4
    clear hb
    go_wp2_with fail
    refine (CA.out _).mono ?_
    rintro e w' ⟨rfl, rfl⟩
    go_wp2_with (go_at_call 10; refine (known13_any _).mono ?_; rintro e w' ⟨rfl, hb'⟩)
    go_ret
    exact ⟨rfl, B5.out.trans (hb'.mono z5)⟩
  · have hq : ¬ D ≤ al := fun h => hp (HRE'.out.2 h)
    clear HRE'
    go_wp2_with fail
    refine (HPL.out _).mono ?_
    rintro e w' ⟨rfl, rfl⟩
    go_wp2_with fail
    refine (CP.out _ _ _ (by exact Ra_2.out) (by exact Rd_2.out)).mono ?_
    rintro e w3 ⟨rfl, hb⟩
    have B3 := Lib.hid (B2.out.trans (Below.mono (hb) z2))
    have z3 := B3.out.size
    have Ra_3 := Lib.hid (RdE.below Ra_2.out (hb) (Nat.le_refl _))
    have Rd_3 := Lib.hid (RdE.below Rd_2.out (hb) (Nat.le_refl _))
    clear B2 Ra_2 Rd_2
    clear hb
    go_wp2_with fail
    refine (CD.out _ _ _ (by exact Ra_3.out) (by exact Rd_3.out)).mono ?_
    rintro e w4 ⟨rfl, hb⟩
    have B4 := Lib.hid (B3.out.trans (Below.mono (hb) z3))
    have z4 := B4.out.size
    have Ra_4 := Lib.hid (RdE.below Ra_3.out (hb) (Nat.le_refl _))
    have Rd_4 := Lib.hid (RdE.below Rd_3.out (hb) (Nat.le_refl _))
    clear B3 Ra_3 Rd_3
    clear hb
    go_wp2_with fail
    refine (CB.out _ _ _ (by exact Ra_4.out) (by exact Rd_4.out)).mono ?_
    rintro e w5 ⟨rfl, hb⟩
    have B5 := Lib.hid (B4.out.trans (Below.mono (hb) z4))
    have z5 := B5.out.size
    have Ra_5 := Lib.hid (RdE.below Ra_4.out (hb) (Nat.le_refl _))
    have Rd_5 := Lib.hid (RdE.below Rd_4.out (hb) (Nat.le_refl _))
    clear B4 Ra_4 Rd_4
    clear hb
    go_wp2_with fail
    refine (CA.out _).mono ?_
    rintro e w' ⟨rfl, rfl⟩
    go_wp2_with (go_at_call 10; refine (known13_any _).mono ?_; rintro e w' ⟨rfl, hb'⟩)
    go_ret
    exact ⟨rfl, B5.out.trans (hb'.mono z5)⟩

end Go.Proofs.Ytiigabojncnipaa
