
/-
  The walk of the law ScoreBounds.
-/
import Derived.Test.YtiigabojncnipaaLaw13A
import Derived.Test.YtiigabojncnipaaLaw13B
import Derived.Test.YtiigabojncnipaaScoreB
import Derived.Test.YtiigabojncnipaaNearA
import Derived.Test.YtiigabojncnipaaSmall
import Derived.Test.YtiigabojncnipaaMakeA
import Derived.Test.YtiigabojncnipaaOpenTok
namespace Go.Proofs.Ytiigabojncnipaa
open Go.RowKit

theorem weighty_total {l : List Tk} (h : Weighty l) (h0 : totalL l = 0) : l = [] := by
  cases l with
  | nil => rfl
  | cons x l =>
    exfalso
    have h1 : totalL (x :: l) = weightI x.k + totalL l := by simp [totalL]
    have h2 := (totalL_bd l).1
    have hx := h x (List.mem_cons_self)
    have h3 : 1 ≤ weightI x.k := by
      unfold weightI
      repeat' split
      all_goals omega
    omega
theorem perc_hund (a b : List Tk) (ha : Weighty a) (hb : Weighty b) : percI (bothI a b) (distI a b) = 100 ↔ distI a b = 0 := by
  have h1 := totalL_bd a
  have h2 := totalL_bd b
  have h3 : 0 ≤ bothI a b := by unfold bothI; omega
  rcases (show bothI a b = 0 ∨ 0 < bothI a b by omega) with h0 | h0
  · have ea : totalL a = 0 := by unfold bothI at h0; omega
    have eb : totalL b = 0 := by unfold bothI at h0; omega
    have e1 := weighty_total ha ea
    have e2 := weighty_total hb eb
    subst e1 e2
    rw [distI_self]
    simp [percI, h0]
  · exact perc_full _ _ h0 (distI_nonneg a b)
theorem both_symm (a b : List Tk) : bothI a b = bothI b a := by unfold bothI; omega

set_option maxRecDepth 100000 in
set_option maxHeartbeats 8000000 in
theorem walk_ScoreBounds (A0 : Option Addr) (n0 c0 : Nat) (l : List Int) (A1 : Option Addr) (n1 c1 : Nat) (m : List Int) (A2 : Option Addr) (n2 c2 : Nat) (n : List Int) (w : World) (h0 : n0 = l.length ∧ l.length ≤ maxLen ∧ RdE intC 1 w (.slice A0 n0 c0) l ∧ ∀ x ∈ l, IntIn x) (h1 : n1 = m.length ∧ m.length ≤ maxLen ∧ RdE intC 1 w (.slice A1 n1 c1) m ∧ ∀ x ∈ m, IntIn x) (h2 : n2 = n.length ∧ n.length ≤ maxLen ∧ RdE intC 1 w (.slice A2 n2 c2) n ∧ ∀ x ∈ n, IntIn x) :
    Calls Try.prog 6 #[.slice A0 n0 c0, .slice A1 n1 c1, .slice A2 n2 c2] w fun e w' => e = .returned (.bool true) ∧ Below w.heap.size w w' := by
  obtain ⟨rfl, hl0, hr0, hi0⟩ := h0
  have HI0 := Lib.hid hi0
  have HR0 := Lib.hid hr0
  unfold maxLen at hl0
  clear hi0 hr0
  obtain ⟨rfl, hl1, hr1, hi1⟩ := h1
  have HI1 := Lib.hid hi1
  have HR1 := Lib.hid hr1
  unfold maxLen at hl1
  clear hi1 hr1
  obtain ⟨rfl, hl2, hr2, hi2⟩ := h2
  have HI2 := Lib.hid hi2
  have HR2 := Lib.hid hr2
  unfold maxLen at hl2
  clear hi2 hr2
  by_cases k0 : 60 < l.length
  · go_enter Try.func6, Try.ntmps6
    go_wp2_with (go_at_call 10; refine (known13_any _).mono ?_; rintro e w' ⟨rfl, hb'⟩)
    go_ret
    exact ⟨rfl, hb'⟩
  by_cases k1 : 60 < m.length
  · go_enter Try.func6, Try.ntmps6
    go_wp2_with (go_at_call 10; refine (known13_any _).mono ?_; rintro e w' ⟨rfl, hb'⟩)
    go_ret
    exact ⟨rfl, hb'⟩
  by_cases k2 : 60 < n.length
  · go_enter Try.func6, Try.ntmps6
    go_wp2_with (go_at_call 10; refine (known13_any _).mono ?_; rintro e w' ⟨rfl, hb'⟩)
    go_ret
    exact ⟨rfl, hb'⟩
  have M0 := mk_made l 14
  have HM0 := Lib.hid (fun (w : World) (h : RdE intC 1 w (.slice A0 l.length c0) l) => made13_any l 14 _ w h HI0.out (by decide))
  generalize mkT l 14 = a at M0 HM0
  have L0 := M0.len
  have T0 := Lib.hid M0.toD
  have M2 := mk_made n 14
  have HM2 := Lib.hid (fun (w : World) (h : RdE intC 1 w (.slice A2 n.length c2) n) => made13_any n 14 _ w h HI2.out (by decide))
  generalize mkT n 14 = b at M2 HM2
  have L2 := M2.len
  have T2 := Lib.hid M2.toD
  go_enter Try.func6, Try.ntmps6
  have B0 := Lib.hid (Below.refl w.heap.size w)
  have z0 : w.heap.size ≤ w.heap.size := Nat.le_refl _
  have RL_0 := Lib.hid HR0.out
  have RM_0 := Lib.hid HR1.out
  have RN_0 := Lib.hid HR2.out
  go_wp2_with fail
  refine (HM0.out _ (by exact RL_0.out)).mono ?_
  rintro e w1 ⟨va, rfl, hown, hb⟩
  have Ra_1 := Lib.hid (OwnE.rd tkC_three hown)
  obtain ⟨Aa, ca, hv⟩ := own_shape hown
  subst hv
  have B1 := Lib.hid (B0.out.trans (Below.mono (hb) z0))
  have z1 := B1.out.size
  have RM_1 := Lib.hid (RdE.below RM_0.out (hb) (Nat.le_refl _))
  have RN_1 := Lib.hid (RdE.below RN_0.out (hb) (Nat.le_refl _))
  clear B0 RL_0 RM_0 RN_0
  clear hown hb
  go_wp2_with fail
  refine (near_any a m _ _ _ (by exact Ra_1.out) (by exact RM_1.out) HI1.out (by omega) M0.sz M0.wt).mono ?_
  rintro e w2 ⟨d, ND, vd, rfl, hown, hb⟩
  have HND := Lib.hid ND
  have LN := ND.len
  have Rd_2 := Lib.hid (OwnE.rd tkC_three hown)
  obtain ⟨Ad, cd, hv⟩ := own_shape hown
  subst hv
  have TD := Lib.hid ND.toD
  clear ND
  have B2 := Lib.hid (B1.out.trans (Below.mono (hb) z1))
  have z2 := B2.out.size
  have RN_2 := Lib.hid (RdE.below RN_1.out (hb) (Nat.le_refl _))
  have Ra_2 := Lib.hid (RdE.below Ra_1.out (hb) (Nat.le_refl _))
  clear B1 RM_1 RN_1 Ra_1
  clear hown hb
  go_wp2_with fail
  refine (HM2.out _ (by exact RN_2.out)).mono ?_
  rintro e w3 ⟨vb, rfl, hown, hb⟩
  have Rb_3 := Lib.hid (OwnE.rd tkC_three hown)
  obtain ⟨Ab, cb, hv⟩ := own_shape hown
  subst hv
  have B3 := Lib.hid (B2.out.trans (Below.mono (hb) z2))
  have z3 := B3.out.size
  have Ra_3 := Lib.hid (RdE.below Ra_2.out (hb) (Nat.le_refl _))
  have Rd_3 := Lib.hid (RdE.below Rd_2.out (hb) (Nat.le_refl _))
  clear B2 RN_2 Ra_2 Rd_2
  clear hown hb
  have ix0 : ∀ W : World, (Instr.index 33 (.agg #[.slice Ad d.length cd, .slice Ab b.length cb]) (.int .i64 0)).run Try.prog W = .ok (.slice Ad d.length cd) W := fun W => by kernel_rfl
  have ix1 : ∀ W : World, (Instr.index 33 (.agg #[.slice Ad d.length cd, .slice Ab b.length cb]) (.int .i64 1)).run Try.prog W = .ok (.slice Ab b.length cb) W := fun W => by kernel_rfl
  have HRa := Ra_3
  have HRd := Rd_3
  have HRb := Rb_3
  have HBW := B3
  have hzW := z3
  go_wp2_with fail
  go_loopw [33] (fun iv wr => ∃ k : Nat, k ≤ 2 ∧ iv = .int .i64 k ∧ Hid (Below w3.heap.size w3 wr)) (fun iv _ => 2 - (intOf iv).toNat)
  case atStart => exact ⟨0, by omega, rfl, Below.refl _ _⟩
  case round =>
    obtain ⟨k, hk, rfl, HB⟩ := hrel
    have hz := HB.out.size
    have RA := Lib.hid (RdE.below HRa.out HB.out (Nat.le_refl _))
    have RD := Lib.hid (RdE.below HRd.out HB.out (Nat.le_refl _))
    have RB := Lib.hid (RdE.below HRb.out HB.out (Nat.le_refl _))
    have HBa := Lib.hid (HBW.out.trans (HB.out.mono hzW))
    rcases (show k = 0 ∨ k = 1 ∨ k = 2 by omega) with rfl | rfl | rfl
    · have hbb := both_bd a d (by omega) (by omega)
      have hd0 := distI_nonneg a d
      have HH := Lib.hid (perc_hund a d M0.wt HND.out.wt)
      have hp := perc_bd (bothI a d) (distI a d) (by omega) hd0
      have CP := Lib.hid (fun (v u : Value) (w : World) (h : RdT w v a) (h' : RdT w u d) => percent_any a d v u w h h' (by omega) (by omega) T0.out TD.out)
      have cq := fun (v u : Value) (w : World) (h : RdT w v d) (h' : RdT w u a) => percent_any d a v u w h h' (by omega) (by omega) TD.out T0.out
      rw [both_symm d a, distI_symm d a] at cq
      have CQ := Lib.hid cq
      have CD := Lib.hid (fun (v u : Value) (w : World) (h : RdT w v a) (h' : RdT w u d) => rdist_any a d v u w h h' (by omega) (by omega) T0.out TD.out)
      clear cq
      generalize percI (bothI a d) (distI a d) = P at CP CQ HH hp
      generalize distI a d = D at CD HH hd0
      have v1 : ¬ P < 0 := by omega
      have v2 : ¬ 100 < P := by omega
      have hcase : (P = 100 ∧ D = 0) ∨ ((P == 100) = false ∧ (D == 0) = false) := by
        by_cases h : P = 100
        · exact .inl ⟨h, HH.out.1 h⟩
        · exact .inr ⟨by simpa using h, by simpa using fun e => h (HH.out.2 e)⟩
      clear hbb hd0 HH hp
      go_wp2_with fail
      refine (CP.out _ _ _ (by exact RA.out) (by exact RD.out)).mono ?_
      rintro e w5 ⟨rfl, hb5⟩
      have RA5 := Lib.hid (RdE.below RA.out hb5 (Nat.le_refl _))
      have RB5 := Lib.hid (RdE.below RD.out hb5 (Nat.le_refl _))
      have HB5 := Lib.hid (HB.out.trans (hb5.mono hz))
      have hz5 := HB5.out.size
      clear hb5
      go_wp2_with fail
      refine (CQ.out _ _ _ (by exact RB5.out) (by exact RA5.out)).mono ?_
      rintro e w6 ⟨rfl, hb6⟩
      have RA6 := Lib.hid (RdE.below RA5.out hb6 (Nat.le_refl _))
      have RB6 := Lib.hid (RdE.below RB5.out hb6 (Nat.le_refl _))
      have HB6 := Lib.hid (HB5.out.trans (hb6.mono hz5))
      have hz6 := HB6.out.size
      clear hb6
      go_wp2_with fail
      refine (CD.out _ _ _ (by exact RA6.out) (by exact RB6.out)).mono ?_
      rintro e w7 ⟨rfl, hb7⟩
      have HB7 := Lib.hid (HB6.out.trans (hb7.mono hz6))
      clear hb7
      rcases hcase with ⟨rfl, rfl⟩ | ⟨g1, g2⟩
      all_goals
        go_wp2_with fail
        exact ⟨⟨0 + 1, by omega, by go_num, HB7.out⟩, by simp [intOf]; try omega⟩
    · have hbb := both_bd a b (by omega) (by omega)
      have hd0 := distI_nonneg a b
      have HH := Lib.hid (perc_hund a b M0.wt M2.wt)
      have hp := perc_bd (bothI a b) (distI a b) (by omega) hd0
      have CP := Lib.hid (fun (v u : Value) (w : World) (h : RdT w v a) (h' : RdT w u b) => percent_any a b v u w h h' (by omega) (by omega) T0.out T2.out)
      have cq := fun (v u : Value) (w : World) (h : RdT w v b) (h' : RdT w u a) => percent_any b a v u w h h' (by omega) (by omega) T2.out T0.out
      rw [both_symm b a, distI_symm b a] at cq
      have CQ := Lib.hid cq
      have CD := Lib.hid (fun (v u : Value) (w : World) (h : RdT w v a) (h' : RdT w u b) => rdist_any a b v u w h h' (by omega) (by omega) T0.out T2.out)
      clear cq
      generalize percI (bothI a b) (distI a b) = P at CP CQ HH hp
      generalize distI a b = D at CD HH hd0
      have v1 : ¬ P < 0 := by omega
      have v2 : ¬ 100 < P := by omega
      have hcase : (P = 100 ∧ D = 0) ∨ ((P == 100) = false ∧ (D == 0) = false) := by
        by_cases h : P = 100
        · exact .inl ⟨h, HH.out.1 h⟩
        · exact .inr ⟨by simpa using h, by simpa using fun e => h (HH.out.2 e)⟩
      clear hbb hd0 HH hp
      go_wp2_with fail
      refine (CP.out _ _ _ (by exact RA.out) (by exact RB.out)).mono ?_
      rintro e w5 ⟨rfl, hb5⟩
      have RA5 := Lib.hid (RdE.below RA.out hb5 (Nat.le_refl _))
      have RB5 := Lib.hid (RdE.below RB.out hb5 (Nat.le_refl _))
      have HB5 := Lib.hid (HB.out.trans (hb5.mono hz))
      have hz5 := HB5.out.size
      clear hb5
      go_wp2_with fail
      refine (CQ.out _ _ _ (by exact RB5.out) (by exact RA5.out)).mono ?_
      rintro e w6 ⟨rfl, hb6⟩
      have RA6 := Lib.hid (RdE.below RA5.out hb6 (Nat.le_refl _))
      have RB6 := Lib.hid (RdE.below RB5.out hb6 (Nat.le_refl _))
      have HB6 := Lib.hid (HB5.out.trans (hb6.mono hz5))
      have hz6 := HB6.out.size
      clear hb6
      go_wp2_with fail
      refine (CD.out _ _ _ (by exact RA6.out) (by exact RB6.out)).mono ?_
      rintro e w7 ⟨rfl, hb7⟩
      have HB7 := Lib.hid (HB6.out.trans (hb7.mono hz6))
      clear hb7
      rcases hcase with ⟨rfl, rfl⟩ | ⟨g1, g2⟩
      all_goals
        go_wp2_with fail
        exact ⟨⟨1 + 1, by omega, by go_num, HB7.out⟩, by simp [intOf]; try omega⟩
    · have cs := fun (v u : Value) (w : World) (h : RdT w v a) (h' : RdT w u a) => percent_any a a v u w h h' (by omega) (by omega) T0.out T0.out
      have e100 : percI (bothI a a) (distI a a) = 100 := (perc_hund a a M0.wt M0.wt).2 (distI_self a)
      rw [e100] at cs
      have CS := Lib.hid cs
      clear cs e100
      go_wp2_with fail
      refine (CS.out _ _ _ (by exact RA.out) (by exact RA.out)).mono ?_
      rintro e w5 ⟨rfl, hb5⟩
      have HB5 := Lib.hid (HBa.out.trans (hb5.mono HBa.out.size))
      clear hb5
      go_wp2_with (go_at_call 10; refine (known13_any _).mono ?_; rintro e w' ⟨rfl, hb'⟩)
      go_ret
      exact ⟨rfl, HB5.out.trans (hb'.mono HB5.out.size)⟩

end Go.Proofs.Ytiigabojncnipaa
