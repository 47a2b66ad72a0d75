
/-
  The walk of the law DistanceLeast.
-/
import Derived.Test.YteccphcophjhpaaLaw12B
import Derived.Test.YteccphcophjhpaaLeastA
import Derived.Test.YteccphcophjhpaaSliceB
import Derived.Test.YteccphcophjhpaaMakeA
import Derived.Test.YteccphcophjhpaaOpenTok
import Derived.BigRegion
namespace Go.Proofs.Yteccphcophjhpaa
open Go.RowKit

set_option maxHeartbeats 1000000 in
theorem rleast_any (a b : List Tk) (va vb : Value) (w : World) (ha : RdT w va a) (hb : RdT w vb b) (hla : a.length ≤ 1000) (hlb : b.length ≤ 1000) (hia : ∀ x ∈ a, TkD x) (hib : ∀ x ∈ b, TkD x) :
    Calls Try.prog 18 #[va, vb] w fun e w' => e = .returned (.int .i64 (distI a b)) ∧ Below w.heap.size w w' := by
  have C := Lib.hid (least_any a b va vb hla hlb hia hib (a.length + b.length) 0 0 [] (-1) (.slice none 0 0) w (by omega) (Nat.zero_le _) (Nat.zero_le _) (Nat.zero_le _) ha hb RdE.nil)
  rw [least_dist] at C
  obtain ⟨A, c, rfl, _, _⟩ := ha.shape
  obtain ⟨A2, c2, rfl, _, _⟩ := hb.shape
  clear ha hb hia hib
  go_enter Try.func18, Try.ntmps18
  go_wp2_with fail
  refine (C.out).mono ?_
  rintro e w1 ⟨rfl, hb1⟩
  have HB1 := Lib.hid hb1
  clear hb1
  go_wp2_with fail
  go_ret
  exact ⟨rfl, HB1.out⟩

theorem cut_d {l : List Tk} {hi lo : Nat} (h : ∀ x ∈ l, TkD x) : ∀ x ∈ (l.take hi).drop lo, TkD x := fun x hx => h x (List.mem_of_mem_take (List.mem_of_mem_drop hx))
set_option maxRecDepth 100000 in
set_option maxHeartbeats 16000000 in
theorem walk_DistanceLeast (A0 : Option Addr) (n0 c0 : Nat) (l : List Int) (A1 : Option Addr) (n1 c1 : Nat) (m : List Int) (f0 t0 : Int) (w : World) (h0 : n0 = l.length ∧ l.length ≤ maxLen ∧ RdE intC 1 w (.slice A0 n0 c0) l ∧ ∀ x ∈ l, IntIn x) (h1 : n1 = m.length ∧ m.length ≤ maxLen ∧ RdE intC 1 w (.slice A1 n1 c1) m ∧ ∀ x ∈ m, IntIn x) (h2' : (Lit.int .i64 f0).wf = true) (h3' : (Lit.int .i64 t0).wf = true) :
    Calls Try.prog 4 #[.slice A0 n0 c0, .slice A1 n1 c1, .int .i64 f0, .int .i64 t0] w fun e w' => e = .returned (.bool true) ∧ Below w.heap.size w w' := by
  have h2 : IntIn f0 := wf_i64 h2'
  have h3 : IntIn t0 := wf_i64 h3'
  clear h2' h3'
  obtain ⟨rfl, hl0, hr0, hi0⟩ := h0
  have HI0 := Lib.hid hi0
  have HR0 := Lib.hid hr0
  unfold maxLen at hl0
  clear hi0 hr0
  obtain ⟨rfl, hl1, hr1, hi1⟩ := h1
  have HI1 := Lib.hid hi1
  have HR1 := Lib.hid hr1
  unfold maxLen at hl1
  clear hi1 hr1
  by_cases k0 : 60 < l.length
  · go_enter Try.func4, Try.ntmps4
    go_wp2_with (go_at_call 12; refine (known12_any _).mono ?_; rintro e w' ⟨rfl, hb'⟩)
    go_ret
    exact ⟨rfl, hb'⟩
  by_cases k1 : 60 < m.length
  · go_enter Try.func4, Try.ntmps4
    go_wp2_with (go_at_call 12; refine (known12_any _).mono ?_; rintro e w' ⟨rfl, hb'⟩)
    go_ret
    exact ⟨rfl, hb'⟩
  have M0 := mk_made l 12
  have HM0 := Lib.hid (fun (w : World) (h : RdE intC 1 w (.slice A0 l.length c0) l) => made12_any l 12 _ w h HI0.out (by decide))
  generalize mkT l 12 = a at M0 HM0
  have L0 := M0.len
  have D0 := Lib.hid M0.toD
  have M1 := mk_made m 12
  have HM1 := Lib.hid (fun (w : World) (h : RdE intC 1 w (.slice A1 m.length c1) m) => made12_any m 12 _ w h HI1.out (by decide))
  generalize mkT m 12 = b at M1 HM1
  have L1 := M1.len
  have D1 := Lib.hid M1.toD
  obtain ⟨i, hi⟩ : ∃ i : Nat, f0 % ((a.length : Int) + 1) = (i : Int) := ⟨(f0 % ((a.length : Int) + 1)).toNat, by have := Int.emod_nonneg f0 (show ((a.length : Int) + 1) ≠ 0 by omega); omega⟩
  have hil : i ≤ a.length := by have := Int.emod_lt_of_pos f0 (show 0 < ((a.length : Int) + 1) by omega); omega
  have Pi := fun w => place_any f0 ((a.length : Int) + 1) w h2 (by omega) (by omega)
  rw [hi] at Pi
  have HPi := Lib.hid Pi
  clear Pi hi
  obtain ⟨k, hk⟩ : ∃ k : Nat, t0 % ((b.length : Int) + 1) = (k : Int) := ⟨(t0 % ((b.length : Int) + 1)).toNat, by have := Int.emod_nonneg t0 (show ((b.length : Int) + 1) ≠ 0 by omega); omega⟩
  have hkl : k ≤ b.length := by have := Int.emod_lt_of_pos t0 (show 0 < ((b.length : Int) + 1) by omega); omega
  have Pk := fun w => place_any t0 ((b.length : Int) + 1) w h3 (by omega) (by omega)
  rw [hk] at Pk
  have HPk := Lib.hid Pk
  clear Pk hk
  have ea : IntKind.i64.wrap ((a.length : Int) + 1) = (a.length : Int) + 1 := by rw [IntKind.wrap_i64]; omega
  have eb : IntKind.i64.wrap ((b.length : Int) + 1) = (b.length : Int) + 1 := by rw [IntKind.wrap_i64]; omega
  clear h2 h3
  go_enter Try.func4, Try.ntmps4
  have B0 := Lib.hid (Below.refl w.heap.size w)
  have z0 : w.heap.size ≤ w.heap.size := Nat.le_refl _
  have RL_0 := Lib.hid HR0.out
  have RM_0 := Lib.hid HR1.out
  go_wp2_with fail
  refine (HM0.out _ (by exact RL_0.out)).mono ?_
  rintro e w1 ⟨va, rfl, hown, hb⟩
  have Ra_1 := Lib.hid (OwnE.rd tkC_three hown)
  obtain ⟨Aa, ca, hv⟩ := own_shape hown
  subst hv
  have B1 := Lib.hid (B0.out.trans (Below.mono (hb) z0))
  have z1 := B1.out.size
  have RM_1 := Lib.hid (RdE.below RM_0.out (hb) (Nat.le_refl _))
  clear B0 RL_0 RM_0
  clear hown hb
  go_wp2_with fail
  refine (HM1.out _ (by exact RM_1.out)).mono ?_
  rintro e w2 ⟨vb, rfl, hown, hb⟩
  have Rb_2 := Lib.hid (OwnE.rd tkC_three hown)
  obtain ⟨Ab, cb, hv⟩ := own_shape hown
  subst hv
  have B2 := Lib.hid (B1.out.trans (Below.mono (hb) z1))
  have z2 := B2.out.size
  have Ra_2 := Lib.hid (RdE.below Ra_1.out (hb) (Nat.le_refl _))
  clear B1 RM_1 Ra_1
  clear hown hb
  go_wp2_with fail
  refine (HPi.out _).mono ?_
  rintro e w' ⟨rfl, rfl⟩
  go_wp2_with fail
  refine (HPk.out _).mono ?_
  rintro e w' ⟨rfl, rfl⟩
  go_wp2_with fail
  clear ea eb
  have ei : IntKind.i64.wrap ((i : Int) + 4) = (i : Int) + 4 := by rw [IntKind.wrap_i64]; omega
  have ek : IntKind.i64.wrap ((k : Int) + 4) = (k : Int) + 4 := by rw [IntKind.wrap_i64]; omega
  have wi : (a.length < i + 4 ∧ ∃ hi : Nat, i ≤ hi ∧ hi ≤ a.length ∧ hi ≤ i + 4 ∧ hi = a.length) ∨ (i + 4 < a.length ∧ ∃ hi : Nat, i ≤ hi ∧ hi ≤ a.length ∧ hi ≤ i + 4 ∧ hi = i + 4) ∨ (a.length = i + 4 ∧ ∃ hi : Nat, i ≤ hi ∧ hi ≤ a.length ∧ hi ≤ i + 4 ∧ hi = i + 4) := by
    rcases (show a.length < i + 4 ∨ i + 4 < a.length ∨ a.length = i + 4 by omega) with h | h | h
    · exact .inl ⟨h, a.length, by omega, by omega, by omega, rfl⟩
    · exact .inr (.inl ⟨h, i + 4, by omega, by omega, by omega, rfl⟩)
    · exact .inr (.inr ⟨h, i + 4, by omega, by omega, by omega, rfl⟩)
  clear wi
  rcases (show (a.length ≤ i + 4) ∨ (i + 4 < a.length) by omega) with xa | xa <;> rcases (show (b.length ≤ k + 4) ∨ (k + 4 < b.length) by omega) with xb | xb
  · obtain ⟨Bi, di, HSi, Ri⟩ := sl_both Ra_2.out i a.length (by omega) (by omega)
    obtain ⟨Bk, dk, HSk, Rk⟩ := sl_both Rb_2.out k b.length (by omega) (by omega)
    have hli : ((a.take a.length).drop i).length ≤ 4 := by rw [List.length_drop, List.length_take]; omega
    have hlk : ((b.take b.length).drop k).length ≤ 4 := by rw [List.length_drop, List.length_take]; omega
    have Da := Lib.hid (cut_d (hi := a.length) (lo := i) D0.out)
    have Db := Lib.hid (cut_d (hi := b.length) (lo := k) D1.out)
    have Ri' := Ri.out
    have Rk' := Rk.out
    generalize (a.take a.length).drop i = sa at HSi Ri' hli Da
    generalize (b.take b.length).drop k = sb at HSk Rk' hlk Db
    clear Ri Rk
    have CD := Lib.hid (fun (v u : Value) (w : World) (h : RdT w v sa) (h' : RdT w u sb) => dist_any sa sb v u w h h' (by omega) (by omega) Da.out Db.out)
    have CL := Lib.hid (fun (v u : Value) (w : World) (h : RdT w v sa) (h' : RdT w u sb) => rleast_any sa sb v u w h h' (by omega) (by omega) Da.out Db.out)
    generalize distI sa sb = D at CD CL
    have ya : ¬ (i : Int) + 4 < (a.length : Int) := by omega
    have yb : ¬ (k : Int) + 4 < (b.length : Int) := by omega

    go_region
    all_goals
      go_wp2_with fail
      refine (CD.out _ _ _ (by exact RdE.drew HSi.out) (by exact RdE.drew HSk.out)).mono ?_
      rintro e w3 ⟨rfl, hb3⟩
      have RS3 := Lib.hid (RdE.below (RdE.drew HSi.out) hb3 (Nat.le_refl _))
      have RT3 := Lib.hid (RdE.below (RdE.drew HSk.out) hb3 (Nat.le_refl _))
      have HB3 := Lib.hid (B2.out.trans (((below_drewN (Below.refl _ _) 1).trans hb3).mono z2))
      have hz3 := HB3.out.size
      clear hb3
      go_wp2_with fail
      refine (CL.out _ _ _ (by exact RS3.out) (by exact RT3.out)).mono ?_
      rintro e w4 ⟨rfl, hb4⟩
      have HB4 := Lib.hid (HB3.out.trans (hb4.mono hz3))
      have hz4 := HB4.out.size
      clear hb4
      go_wp2_with (go_at_call 12; refine (known12_any _).mono ?_; rintro e w' ⟨rfl, hb'⟩)
      go_ret
      exact ⟨rfl, HB4.out.trans (hb'.mono hz4)⟩
  · obtain ⟨Bi, di, HSi, Ri⟩ := sl_both Ra_2.out i a.length (by omega) (by omega)
    obtain ⟨Bk, dk, HSk, Rk⟩ := sl_both Rb_2.out k (k + 4) (by omega) (by omega)
    have hli : ((a.take a.length).drop i).length ≤ 4 := by rw [List.length_drop, List.length_take]; omega
    have hlk : ((b.take (k + 4)).drop k).length ≤ 4 := by rw [List.length_drop, List.length_take]; omega
    have Da := Lib.hid (cut_d (hi := a.length) (lo := i) D0.out)
    have Db := Lib.hid (cut_d (hi := (k + 4)) (lo := k) D1.out)
    have Ri' := Ri.out
    have Rk' := Rk.out
    rw [show ((k + 4 : Nat) : Int) = (k : Int) + 4 by omega] at Rk'
    generalize (a.take a.length).drop i = sa at HSi Ri' hli Da
    generalize (b.take (k + 4)).drop k = sb at HSk Rk' hlk Db
    clear Ri Rk
    have CD := Lib.hid (fun (v u : Value) (w : World) (h : RdT w v sa) (h' : RdT w u sb) => dist_any sa sb v u w h h' (by omega) (by omega) Da.out Db.out)
    have CL := Lib.hid (fun (v u : Value) (w : World) (h : RdT w v sa) (h' : RdT w u sb) => rleast_any sa sb v u w h h' (by omega) (by omega) Da.out Db.out)
    generalize distI sa sb = D at CD CL
    have ya : ¬ (i : Int) + 4 < (a.length : Int) := by omega
    have yb : (k : Int) + 4 < (b.length : Int) := by omega

    go_region
    all_goals
      go_wp2_with fail
      refine (CD.out _ _ _ (by exact RdE.drew HSi.out) (by exact RdE.drew HSk.out)).mono ?_
      rintro e w3 ⟨rfl, hb3⟩
      have RS3 := Lib.hid (RdE.below (RdE.drew HSi.out) hb3 (Nat.le_refl _))
      have RT3 := Lib.hid (RdE.below (RdE.drew HSk.out) hb3 (Nat.le_refl _))
      have HB3 := Lib.hid (B2.out.trans (((below_drewN (Below.refl _ _) 1).trans hb3).mono z2))
      have hz3 := HB3.out.size
      clear hb3
      go_wp2_with fail
      refine (CL.out _ _ _ (by exact RS3.out) (by exact RT3.out)).mono ?_
      rintro e w4 ⟨rfl, hb4⟩
      have HB4 := Lib.hid (HB3.out.trans (hb4.mono hz3))
      have hz4 := HB4.out.size
      clear hb4
      go_wp2_with (go_at_call 12; refine (known12_any _).mono ?_; rintro e w' ⟨rfl, hb'⟩)
      go_ret
      exact ⟨rfl, HB4.out.trans (hb'.mono hz4)⟩
  · obtain ⟨Bi, di, HSi, Ri⟩ := sl_both Ra_2.out i (i + 4) (by omega) (by omega)
    obtain ⟨Bk, dk, HSk, Rk⟩ := sl_both Rb_2.out k b.length (by omega) (by omega)
    have hli : ((a.take (i + 4)).drop i).length ≤ 4 := by rw [List.length_drop, List.length_take]; omega
    have hlk : ((b.take b.length).drop k).length ≤ 4 := by rw [List.length_drop, List.length_take]; omega
    have Da := Lib.hid (cut_d (hi := (i + 4)) (lo := i) D0.out)
    have Db := Lib.hid (cut_d (hi := b.length) (lo := k) D1.out)
    have Ri' := Ri.out
    have Rk' := Rk.out
    rw [show ((i + 4 : Nat) : Int) = (i : Int) + 4 by omega] at Ri'
    generalize (a.take (i + 4)).drop i = sa at HSi Ri' hli Da
    generalize (b.take b.length).drop k = sb at HSk Rk' hlk Db
    clear Ri Rk
    have CD := Lib.hid (fun (v u : Value) (w : World) (h : RdT w v sa) (h' : RdT w u sb) => dist_any sa sb v u w h h' (by omega) (by omega) Da.out Db.out)
    have CL := Lib.hid (fun (v u : Value) (w : World) (h : RdT w v sa) (h' : RdT w u sb) => rleast_any sa sb v u w h h' (by omega) (by omega) Da.out Db.out)
    generalize distI sa sb = D at CD CL
    have ya : (i : Int) + 4 < (a.length : Int) := by omega
    have yb : ¬ (k : Int) + 4 < (b.length : Int) := by omega

    go_region
    all_goals
      go_wp2_with fail
      refine (CD.out _ _ _ (by exact RdE.drew HSi.out) (by exact RdE.drew HSk.out)).mono ?_
      rintro e w3 ⟨rfl, hb3⟩
      have RS3 := Lib.hid (RdE.below (RdE.drew HSi.out) hb3 (Nat.le_refl _))
      have RT3 := Lib.hid (RdE.below (RdE.drew HSk.out) hb3 (Nat.le_refl _))
      have HB3 := Lib.hid (B2.out.trans (((below_drewN (Below.refl _ _) 1).trans hb3).mono z2))
      have hz3 := HB3.out.size
      clear hb3
      go_wp2_with fail
      refine (CL.out _ _ _ (by exact RS3.out) (by exact RT3.out)).mono ?_
      rintro e w4 ⟨rfl, hb4⟩
      have HB4 := Lib.hid (HB3.out.trans (hb4.mono hz3))
      have hz4 := HB4.out.size
      clear hb4
      go_wp2_with (go_at_call 12; refine (known12_any _).mono ?_; rintro e w' ⟨rfl, hb'⟩)
      go_ret
      exact ⟨rfl, HB4.out.trans (hb'.mono hz4)⟩
  · obtain ⟨Bi, di, HSi, Ri⟩ := sl_both Ra_2.out i (i + 4) (by omega) (by omega)
    obtain ⟨Bk, dk, HSk, Rk⟩ := sl_both Rb_2.out k (k + 4) (by omega) (by omega)
    have hli : ((a.take (i + 4)).drop i).length ≤ 4 := by rw [List.length_drop, List.length_take]; omega
    have hlk : ((b.take (k + 4)).drop k).length ≤ 4 := by rw [List.length_drop, List.length_take]; omega
    have Da := Lib.hid (cut_d (hi := (i + 4)) (lo := i) D0.out)
    have Db := Lib.hid (cut_d (hi := (k + 4)) (lo := k) D1.out)
    have Ri' := Ri.out
    have Rk' := Rk.out
    rw [show ((i + 4 : Nat) : Int) = (i : Int) + 4 by omega] at Ri'
    rw [show ((k + 4 : Nat) : Int) = (k : Int) + 4 by omega] at Rk'
    generalize (a.take (i + 4)).drop i = sa at HSi Ri' hli Da
    generalize (b.take (k + 4)).drop k = sb at HSk Rk' hlk Db
    clear Ri Rk
    have CD := Lib.hid (fun (v u : Value) (w : World) (h : RdT w v sa) (h' : RdT w u sb) => dist_any sa sb v u w h h' (by omega) (by omega) Da.out Db.out)
    have CL := Lib.hid (fun (v u : Value) (w : World) (h : RdT w v sa) (h' : RdT w u sb) => rleast_any sa sb v u w h h' (by omega) (by omega) Da.out Db.out)
    generalize distI sa sb = D at CD CL
    have ya : (i : Int) + 4 < (a.length : Int) := by omega
    have yb : (k : Int) + 4 < (b.length : Int) := by omega

    go_region
    all_goals
      go_wp2_with fail
      refine (CD.out _ _ _ (by exact RdE.drew HSi.out) (by exact RdE.drew HSk.out)).mono ?_
      rintro e w3 ⟨rfl, hb3⟩
      have RS3 := Lib.hid (RdE.below (RdE.drew HSi.out) hb3 (Nat.le_refl _))
      have RT3 := Lib.hid (RdE.below (RdE.drew HSk.out) hb3 (Nat.le_refl _))
      have HB3 := Lib.hid (B2.out.trans (((below_drewN (Below.refl _ _) 1).trans hb3).mono z2))
      have hz3 := HB3.out.size
      clear hb3
      go_wp2_with fail
      refine (CL.out _ _ _ (by exact RS3.out) (by exact RT3.out)).mono ?_
      rintro e w4 ⟨rfl, hb4⟩
      have HB4 := Lib.hid (HB3.out.trans (hb4.mono hz3))
      have hz4 := HB4.out.size
      clear hb4
      go_wp2_with (go_at_call 12; refine (known12_any _).mono ?_; rintro e w' ⟨rfl, hb'⟩)
      go_ret
      exact ⟨rfl, HB4.out.trans (hb'.mono hz4)⟩

end Go.Proofs.Yteccphcophjhpaa
