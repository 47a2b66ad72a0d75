
/-
  The walk of the law DistanceMetric.
-/
import Derived.Test.YteccphcophjhpaaLaw12B
import Derived.Deep.RegionHeld3
namespace Go.Proofs.Yteccphcophjhpaa
open Go.RowKit

theorem sameL_take (a b : List Tk) (k : Nat) (ha : k < a.length) (hb : k < b.length) : sameL (a.take (k + 1)) (b.take (k + 1)) = (sameL (a.take k) (b.take k) && sameB a[k] b[k]) := by
  induction a generalizing b k with
  | nil => simp at ha
  | cons x a ih =>
    cases b with
    | nil => simp at hb
    | cons y b =>
      cases k with
      | zero => simp [sameL_cc, sameL_nn]
      | succ k =>
        rw [List.take_succ_cons, List.take_succ_cons, sameL_cc, ih b k (by simpa using ha) (by simpa using hb), List.take_succ_cons, List.take_succ_cons, sameL_cc, Bool.and_assoc]
        rfl
theorem sameL_len (a b : List Tk) (h : ¬ a.length = b.length) : sameL a b = false := by
  unfold sameL
  have : (a.length == b.length) = false := by simpa using h
  rw [this]
  rfl
theorem sameL_prefix (a b : List Tk) (k : Nat) (hl : a.length = b.length) (h : sameL (a.take k) (b.take k) = false) : sameL a b = false := by
  induction a generalizing b k with
  | nil =>
    cases b with
    | nil => rw [List.take_nil, sameL_nn] at h; cases h
    | cons y b => simp at hl
  | cons x a ih =>
    cases b with
    | nil => simp at hl
    | cons y b =>
      cases k with
      | zero => rw [List.take_zero, List.take_zero, sameL_nn] at h; cases h
      | succ k =>
        rw [List.take_succ_cons, List.take_succ_cons, sameL_cc] at h
        rw [sameL_cc]
        cases hx : sameB x y
        · rfl
        · rw [hx, Bool.true_and] at h
          rw [ih b k (by simpa using hl) h]
          rfl

set_option maxRecDepth 100000 in
set_option maxHeartbeats 8000000 in
theorem walk_DistanceMetric (A0 : Option Addr) (n0 c0 : Nat) (l : List Int) (A1 : Option Addr) (n1 c1 : Nat) (m : List Int) (A2 : Option Addr) (n2 c2 : Nat) (n : List Int) (w : World) (h0 : n0 = l.length ∧ l.length ≤ maxLen ∧ RdE intC 1 w (.slice A0 n0 c0) l ∧ ∀ x ∈ l, IntIn x) (h1 : n1 = m.length ∧ m.length ≤ maxLen ∧ RdE intC 1 w (.slice A1 n1 c1) m ∧ ∀ x ∈ m, IntIn x) (h2 : n2 = n.length ∧ n.length ≤ maxLen ∧ RdE intC 1 w (.slice A2 n2 c2) n ∧ ∀ x ∈ n, IntIn x) :
    Calls Try.prog 5 #[.slice A0 n0 c0, .slice A1 n1 c1, .slice A2 n2 c2] w fun e w' => e = .returned (.bool true) ∧ Below w.heap.size w w' := by
  obtain ⟨rfl, hl0, hr0, hi0⟩ := h0
  have HI0 := Lib.hid hi0
  unfold maxLen at hl0
  clear hi0
  obtain ⟨rfl, hl1, hr1, hi1⟩ := h1
  have HI1 := Lib.hid hi1
  unfold maxLen at hl1
  clear hi1
  obtain ⟨rfl, hl2, hr2, hi2⟩ := h2
  have HI2 := Lib.hid hi2
  unfold maxLen at hl2
  clear hi2
  by_cases k0 : 60 < l.length
  · go_enter Try.func5, Try.ntmps5
    go_wp2_with (go_at_call 12; refine (known12_any _).mono ?_; rintro e w' ⟨rfl, hb'⟩)
    go_ret
    exact ⟨rfl, hb'⟩
  by_cases k1 : 60 < m.length
  · go_enter Try.func5, Try.ntmps5
    go_wp2_with (go_at_call 12; refine (known12_any _).mono ?_; rintro e w' ⟨rfl, hb'⟩)
    go_ret
    exact ⟨rfl, hb'⟩
  by_cases k2 : 60 < n.length
  · go_enter Try.func5, Try.ntmps5
    go_wp2_with (go_at_call 12; refine (known12_any _).mono ?_; rintro e w' ⟨rfl, hb'⟩)
    go_ret
    exact ⟨rfl, hb'⟩
  have M0 := mk_made l 12
  have HM0 := Lib.hid (fun (w : World) (h : RdE intC 1 w (.slice A0 l.length c0) l) => made12_any l 12 _ w h HI0.out (by decide))
  generalize mkT l 12 = a at M0 HM0
  have L0 := M0.len
  have D0 := Lib.hid M0.toD
  have M1 := mk_made m 12
  have HM1 := Lib.hid (fun (w : World) (h : RdE intC 1 w (.slice A1 m.length c1) m) => made12_any m 12 _ w h HI1.out (by decide))
  generalize mkT m 12 = b at M1 HM1
  have L1 := M1.len
  have D1 := Lib.hid M1.toD
  have M2 := mk_made n 12
  have HM2 := Lib.hid (fun (w : World) (h : RdE intC 1 w (.slice A2 n.length c2) n) => made12_any n 12 _ w h HI2.out (by decide))
  generalize mkT n 12 = pc at M2 HM2
  have L2 := M2.len
  have D2 := Lib.hid M2.toD
  have hz := distI_zero a b M0.wt M1.wt
  have ht := distI_tri a b pc
  have b0 := distI_nonneg a b
  have b1 := distI_bound a b
  have b2 := distI_bound a pc
  have b3 := distI_bound b pc
  have b4 := distI_nonneg b pc
  have C0 := Lib.hid (fun (v u : Value) (w : World) (h : RdT w v a) (h' : RdT w u b) => dist_any a b v u w h h' (by omega) (by omega) D0.out D1.out)
  have c1 := fun (v u : Value) (w : World) (h : RdT w v b) (h' : RdT w u a) => dist_any b a v u w h h' (by omega) (by omega) D1.out D0.out
  rw [distI_symm b a] at c1
  have C1 := Lib.hid c1
  have C2 := Lib.hid (fun (v u : Value) (w : World) (h : RdT w v a) (h' : RdT w u pc) => dist_any a pc v u w h h' (by omega) (by omega) D0.out D2.out)
  have C3 := Lib.hid (fun (v u : Value) (w : World) (h : RdT w v b) (h' : RdT w u pc) => dist_any b pc v u w h h' (by omega) (by omega) D1.out D2.out)
  have c4 := fun (v u : Value) (w : World) (h : RdT w v a) (h' : RdT w u a) => dist_any a a v u w h h' (by omega) (by omega) D0.out D0.out
  rw [distI_self] at c4
  have C4 := Lib.hid c4
  have HZ : Hid ((distI a b == 0) = sameL a b) := by
    show (distI a b == 0) = sameL a b
    rw [Bool.eq_iff_iff, beq_iff_eq]
    exact hz
  clear c1 c4 hz
  generalize distI a b = D at C0 C1 HZ ht b0 b1
  generalize distI a pc = E at C2 ht b2
  generalize distI b pc = G at C3 ht b3 b4
  go_enter Try.func5, Try.ntmps5
  have B0 := Lib.hid (Below.refl w.heap.size w)
  have z0 : w.heap.size ≤ w.heap.size := Nat.le_refl _
  have RL_0 := Lib.hid hr0
  have RM_0 := Lib.hid hr1
  have RN_0 := Lib.hid hr2
  clear hr0 hr1 hr2
  go_wp2_with fail
  refine (HM0.out _ (by exact RL_0.out)).mono ?_
  rintro e w1 ⟨va, rfl, hown, hb⟩
  have Ra_1 := Lib.hid (OwnE.rd tkC_three hown)
  obtain ⟨Aa, ca, hv⟩ := own_shape hown
  subst hv
  have B1 := Lib.hid (B0.out.trans (Below.mono (hb) z0))
  have z1 := B1.out.size
  have RM_1 := Lib.hid (RdE.below RM_0.out (hb) (Nat.le_refl _))
  have RN_1 := Lib.hid (RdE.below RN_0.out (hb) (Nat.le_refl _))
  clear B0 RL_0 RM_0 RN_0
  clear hown hb
  go_wp2_with fail
  refine (HM1.out _ (by exact RM_1.out)).mono ?_
  rintro e w2 ⟨vb, rfl, hown, hb⟩
  have Rb_2 := Lib.hid (OwnE.rd tkC_three hown)
  obtain ⟨Ab, cb, hv⟩ := own_shape hown
  subst hv
  have B2 := Lib.hid (B1.out.trans (Below.mono (hb) z1))
  have z2 := B2.out.size
  have RN_2 := Lib.hid (RdE.below RN_1.out (hb) (Nat.le_refl _))
  have Ra_2 := Lib.hid (RdE.below Ra_1.out (hb) (Nat.le_refl _))
  clear B1 RM_1 RN_1 Ra_1
  clear hown hb
  go_wp2_with fail
  refine (HM2.out _ (by exact RN_2.out)).mono ?_
  rintro e w3 ⟨vc, rfl, hown, hb⟩
  have Rc_3 := Lib.hid (OwnE.rd tkC_three hown)
  obtain ⟨Ac, cc, hv⟩ := own_shape hown
  subst hv
  have B3 := Lib.hid (B2.out.trans (Below.mono (hb) z2))
  have z3 := B3.out.size
  have Ra_3 := Lib.hid (RdE.below Ra_2.out (hb) (Nat.le_refl _))
  have Rb_3 := Lib.hid (RdE.below Rb_2.out (hb) (Nat.le_refl _))
  clear B2 RN_2 Ra_2 Rb_2
  clear hown hb
  by_cases hlen : a.length = b.length
  · have hq : ((a.length : Int) == (b.length : Int)) = true := by simp; omega
    have HLEN := Lib.hid hlen
    have hlen1 : a.length ≤ b.length := by omega
    have hlen2 : b.length ≤ a.length := by omega
    clear hlen
    go_wp2_with fail
    go_loopw [10, 11] (fun sv i wr => ∃ k : Nat, k ≤ a.length ∧ i = .int .i64 k ∧ sv = .bool (sameL (a.take k) (b.take k)) ∧ Hid (Below w3.heap.size w3 wr)) (fun _ i _ => a.length - (intOf i).toNat)
    case atStart => exact ⟨0, by omega, rfl, rfl, Below.refl _ _⟩
    case round =>
      obtain ⟨k, hk, rfl, rfl, HBW⟩ := hrel
      have hzw := HBW.out.size
      by_cases hs : sameL (a.take k) (b.take k) = true
      · by_cases hkl : k < a.length
        · have hkb : k < b.length := by omega
          obtain ⟨ba, oa, rfl, la, p1, p2, p3⟩ := RdT.at_ (RdE.below Ra_3.out HBW.out (Nat.le_refl _)) k hkl
          obtain ⟨bb, ob, rfl, lb, q1, q2, q3⟩ := RdT.at_ (RdE.below Rb_3.out HBW.out (Nat.le_refl _)) k hkb
          have HT := Lib.hid (sameL_take a b k hkl hkb)
          have e4 : (k : Int) < (a.length : Int) := by omega
          have e5 : (k : Int) < (b.length : Int) := by omega
          generalize a[k] = x at p1 p2 p3 HT
          generalize b[k] = y at q1 q2 q3 HT
          obtain ⟨xk, xt, xd⟩ := x
          obtain ⟨yk, yt, yd⟩ := y
          simp only at p1 p2 p3 q1 q2 q3
          go_wp2_with fail
          have KP : Hid (∀ X X' : World, Below X.heap.size X X' → (X.cell? ⟨ba, oa + k * 3, none⟩ = some (.int .i64 xk) ∧ X.cell? ⟨ba, oa + k * 3 + 1, none⟩ = some (.string xt) ∧ X.cell? ⟨ba, oa + k * 3 + 2, none⟩ = some (.int .i64 xd) ∧ X.cell? ⟨bb, ob + k * 3, none⟩ = some (.int .i64 yk) ∧ X.cell? ⟨bb, ob + k * 3 + 1, none⟩ = some (.string yt) ∧ X.cell? ⟨bb, ob + k * 3 + 2, none⟩ = some (.int .i64 yd) ∧ Hid (Below wr.heap.size wr X ∧ ba < wr.heap.size ∧ bb < wr.heap.size)) → (X'.cell? ⟨ba, oa + k * 3, none⟩ = some (.int .i64 xk) ∧ X'.cell? ⟨ba, oa + k * 3 + 1, none⟩ = some (.string xt) ∧ X'.cell? ⟨ba, oa + k * 3 + 2, none⟩ = some (.int .i64 xd) ∧ X'.cell? ⟨bb, ob + k * 3, none⟩ = some (.int .i64 yk) ∧ X'.cell? ⟨bb, ob + k * 3 + 1, none⟩ = some (.string yt) ∧ X'.cell? ⟨bb, ob + k * 3 + 2, none⟩ = some (.int .i64 yd) ∧ Hid (Below wr.heap.size wr X' ∧ ba < wr.heap.size ∧ bb < wr.heap.size))) := by
            rintro X X' hb ⟨q0, q1, q2, q3, q4, q5, hH⟩
            obtain ⟨hB, l0, l1⟩ := hH.out
            have hsz := hB.size
            exact ⟨(hb.cell (p := ⟨ba, oa + k * 3, none⟩) (Nat.lt_of_lt_of_le l0 hsz)).trans q0, (hb.cell (p := ⟨ba, oa + k * 3 + 1, none⟩) (Nat.lt_of_lt_of_le l0 hsz)).trans q1, (hb.cell (p := ⟨ba, oa + k * 3 + 2, none⟩) (Nat.lt_of_lt_of_le l0 hsz)).trans q2, (hb.cell (p := ⟨bb, ob + k * 3, none⟩) (Nat.lt_of_lt_of_le l1 hsz)).trans q3, (hb.cell (p := ⟨bb, ob + k * 3 + 1, none⟩) (Nat.lt_of_lt_of_le l1 hsz)).trans q4, (hb.cell (p := ⟨bb, ob + k * 3 + 2, none⟩) (Nat.lt_of_lt_of_le l1 hsz)).trans q5, ⟨hB.trans (hb.mono hsz), l0, l1⟩⟩
          have KD : Hid (∀ X : World, (X.cell? ⟨ba, oa + k * 3, none⟩ = some (.int .i64 xk) ∧ X.cell? ⟨ba, oa + k * 3 + 1, none⟩ = some (.string xt) ∧ X.cell? ⟨ba, oa + k * 3 + 2, none⟩ = some (.int .i64 xd) ∧ X.cell? ⟨bb, ob + k * 3, none⟩ = some (.int .i64 yk) ∧ X.cell? ⟨bb, ob + k * 3 + 1, none⟩ = some (.string yt) ∧ X.cell? ⟨bb, ob + k * 3 + 2, none⟩ = some (.int .i64 yd) ∧ Hid (Below wr.heap.size wr X ∧ ba < wr.heap.size ∧ bb < wr.heap.size)) → (X.drew.cell? ⟨ba, oa + k * 3, none⟩ = some (.int .i64 xk) ∧ X.drew.cell? ⟨ba, oa + k * 3 + 1, none⟩ = some (.string xt) ∧ X.drew.cell? ⟨ba, oa + k * 3 + 2, none⟩ = some (.int .i64 xd) ∧ X.drew.cell? ⟨bb, ob + k * 3, none⟩ = some (.int .i64 yk) ∧ X.drew.cell? ⟨bb, ob + k * 3 + 1, none⟩ = some (.string yt) ∧ X.drew.cell? ⟨bb, ob + k * 3 + 2, none⟩ = some (.int .i64 yd) ∧ Hid (Below wr.heap.size wr X.drew ∧ ba < wr.heap.size ∧ bb < wr.heap.size))) := by
            rintro X ⟨q0, q1, q2, q3, q4, q5, hH⟩
            exact ⟨q0, q1, q2, q3, q4, q5, ⟨below_drewN hH.out.1 1, hH.out.2⟩⟩
          have K0 : Hid (wr.cell? ⟨ba, oa + k * 3, none⟩ = some (.int .i64 xk) ∧ wr.cell? ⟨ba, oa + k * 3 + 1, none⟩ = some (.string xt) ∧ wr.cell? ⟨ba, oa + k * 3 + 2, none⟩ = some (.int .i64 xd) ∧ wr.cell? ⟨bb, ob + k * 3, none⟩ = some (.int .i64 yk) ∧ wr.cell? ⟨bb, ob + k * 3 + 1, none⟩ = some (.string yt) ∧ wr.cell? ⟨bb, ob + k * 3 + 2, none⟩ = some (.int .i64 yd) ∧ Hid (Below wr.heap.size wr wr ∧ ba < wr.heap.size ∧ bb < wr.heap.size)) := ⟨(p1), (p2), (p3), (q1), (q2), (q3), ⟨Below.refl _ _, (la), (lb)⟩⟩
          go_region_held3 (fun w' => w'.cell? ⟨ba, oa + k * 3, none⟩ = some (.int .i64 xk) ∧ w'.cell? ⟨ba, oa + k * 3 + 1, none⟩ = some (.string xt) ∧ w'.cell? ⟨ba, oa + k * 3 + 2, none⟩ = some (.int .i64 xd) ∧ w'.cell? ⟨bb, ob + k * 3, none⟩ = some (.int .i64 yk) ∧ w'.cell? ⟨bb, ob + k * 3 + 1, none⟩ = some (.string yt) ∧ w'.cell? ⟨bb, ob + k * 3 + 2, none⟩ = some (.int .i64 yd) ∧ Hid (Below wr.heap.size wr w' ∧ ba < wr.heap.size ∧ bb < wr.heap.size))
            (first | exact K0.out | exact KD.out _ K0.out | assumption | exact KP.out _ _ hb' (KD.out _ K0.out) | (refine KP.out _ _ hb' ?_; with_reducible_and_instances assumption) | (refine KD.out _ ?_; with_reducible_and_instances assumption))
            (first
              | (go_at_call 19; refine (rsame_any _ _ _ _ _ _ _).mono ?_; rintro e w' ⟨rfl, hb'⟩))
          rename_i hh
          obtain ⟨t0, t1, t2, t3, t4, t5, tH⟩ := hh
          clear KP KD K0
          have HW' := Lib.hid (HBW.out.trans (tH.out.1.mono hzw))
          clear t0 t1 t2 t3 t4 t5 tH
          go_wp2_with fail
          refine ⟨⟨k + 1, by omega, by go_num, ?_, HW'.out⟩, by simp [intOf]; try omega⟩
          rw [HT.out, hs, Bool.true_and]
          rfl
        · have HS : Hid (sameL a b = true) := by
            have h := hs
            rw [List.take_of_length_le (show a.length ≤ k by omega), List.take_of_length_le (show b.length ≤ k by omega)] at h
            exact h
          have hS : (D == 0) = true := by rw [HZ.out]; exact HS.out
          clear HZ
          have Ra_100 := Lib.hid (RdE.below Ra_3.out HBW.out (Nat.le_refl _))
          have Rb_100 := Lib.hid (RdE.below Rb_3.out HBW.out (Nat.le_refl _))
          have Rc_100 := Lib.hid (RdE.below Rc_3.out HBW.out (Nat.le_refl _))
          have B100 := Lib.hid (B3.out.trans (HBW.out.mono z3))
          have z100 := B100.out.size
          go_wp2_with fail
          refine (C0.out _ _ _ (by exact Ra_100.out) (by exact Rb_100.out)).mono ?_
          rintro e w101 ⟨rfl, hb⟩
          have B101 := Lib.hid (B100.out.trans (Below.mono (hb) z100))
          have z101 := B101.out.size
          have Ra_101 := Lib.hid (RdE.below Ra_100.out (hb) (Nat.le_refl _))
          have Rb_101 := Lib.hid (RdE.below Rb_100.out (hb) (Nat.le_refl _))
          have Rc_101 := Lib.hid (RdE.below Rc_100.out (hb) (Nat.le_refl _))
          clear B100 Ra_100 Rb_100 Rc_100
          clear hb
          go_wp2_with fail
          refine (C1.out _ _ _ (by exact Rb_101.out) (by exact Ra_101.out)).mono ?_
          rintro e w102 ⟨rfl, hb⟩
          have B102 := Lib.hid (B101.out.trans (Below.mono (hb) z101))
          have z102 := B102.out.size
          have Ra_102 := Lib.hid (RdE.below Ra_101.out (hb) (Nat.le_refl _))
          have Rb_102 := Lib.hid (RdE.below Rb_101.out (hb) (Nat.le_refl _))
          have Rc_102 := Lib.hid (RdE.below Rc_101.out (hb) (Nat.le_refl _))
          clear B101 Ra_101 Rb_101 Rc_101
          clear hb
          go_wp2_with fail
          refine (C2.out _ _ _ (by exact Ra_102.out) (by exact Rc_102.out)).mono ?_
          rintro e w103 ⟨rfl, hb⟩
          have B103 := Lib.hid (B102.out.trans (Below.mono (hb) z102))
          have z103 := B103.out.size
          have Ra_103 := Lib.hid (RdE.below Ra_102.out (hb) (Nat.le_refl _))
          have Rb_103 := Lib.hid (RdE.below Rb_102.out (hb) (Nat.le_refl _))
          have Rc_103 := Lib.hid (RdE.below Rc_102.out (hb) (Nat.le_refl _))
          clear B102 Ra_102 Rb_102 Rc_102
          clear hb
          go_wp2_with fail
          refine (C3.out _ _ _ (by exact Rb_103.out) (by exact Rc_103.out)).mono ?_
          rintro e w104 ⟨rfl, hb⟩
          have B104 := Lib.hid (B103.out.trans (Below.mono (hb) z103))
          have z104 := B104.out.size
          have Ra_104 := Lib.hid (RdE.below Ra_103.out (hb) (Nat.le_refl _))
          have Rb_104 := Lib.hid (RdE.below Rb_103.out (hb) (Nat.le_refl _))
          have Rc_104 := Lib.hid (RdE.below Rc_103.out (hb) (Nat.le_refl _))
          clear B103 Ra_103 Rb_103 Rc_103
          clear hb
          go_wp2_with fail
          refine (C4.out _ _ _ (by exact Ra_104.out) (by exact Ra_104.out)).mono ?_
          rintro e w105 ⟨rfl, hb⟩
          have B105 := Lib.hid (B104.out.trans (Below.mono (hb) z104))
          have z105 := B105.out.size
          have Ra_105 := Lib.hid (RdE.below Ra_104.out (hb) (Nat.le_refl _))
          have Rb_105 := Lib.hid (RdE.below Rb_104.out (hb) (Nat.le_refl _))
          have Rc_105 := Lib.hid (RdE.below Rc_104.out (hb) (Nat.le_refl _))
          clear B104 Ra_104 Rb_104 Rc_104
          clear hb
          go_wp2_with fail
          refine (known12_any _).mono ?_
          rintro e w106 ⟨rfl, hb⟩
          have B106 := Lib.hid (B105.out.trans (Below.mono (hb) z105))
          have z106 := B106.out.size
          have Ra_106 := Lib.hid (RdE.below Ra_105.out (hb) (Nat.le_refl _))
          have Rb_106 := Lib.hid (RdE.below Rb_105.out (hb) (Nat.le_refl _))
          have Rc_106 := Lib.hid (RdE.below Rc_105.out (hb) (Nat.le_refl _))
          clear B105 Ra_105 Rb_105 Rc_105
          clear hb
          go_wp2_with fail
          go_ret
          exact ⟨rfl, B106.out⟩
      · have hs' : sameL (a.take k) (b.take k) = false := by simpa using hs
        have HS : Hid (sameL a b = false) := sameL_prefix a b k HLEN.out (by simpa using hs)
        clear hs
        have hS : (D == 0) = false := by rw [HZ.out]; exact HS.out
        clear HZ
        have Ra_100 := Lib.hid (RdE.below Ra_3.out HBW.out (Nat.le_refl _))
        have Rb_100 := Lib.hid (RdE.below Rb_3.out HBW.out (Nat.le_refl _))
        have Rc_100 := Lib.hid (RdE.below Rc_3.out HBW.out (Nat.le_refl _))
        have B100 := Lib.hid (B3.out.trans (HBW.out.mono z3))
        have z100 := B100.out.size
        go_wp2_with fail
        refine (C0.out _ _ _ (by exact Ra_100.out) (by exact Rb_100.out)).mono ?_
        rintro e w101 ⟨rfl, hb⟩
        have B101 := Lib.hid (B100.out.trans (Below.mono (hb) z100))
        have z101 := B101.out.size
        have Ra_101 := Lib.hid (RdE.below Ra_100.out (hb) (Nat.le_refl _))
        have Rb_101 := Lib.hid (RdE.below Rb_100.out (hb) (Nat.le_refl _))
        have Rc_101 := Lib.hid (RdE.below Rc_100.out (hb) (Nat.le_refl _))
        clear B100 Ra_100 Rb_100 Rc_100
        clear hb
        go_wp2_with fail
        refine (C1.out _ _ _ (by exact Rb_101.out) (by exact Ra_101.out)).mono ?_
        rintro e w102 ⟨rfl, hb⟩
        have B102 := Lib.hid (B101.out.trans (Below.mono (hb) z101))
        have z102 := B102.out.size
        have Ra_102 := Lib.hid (RdE.below Ra_101.out (hb) (Nat.le_refl _))
        have Rb_102 := Lib.hid (RdE.below Rb_101.out (hb) (Nat.le_refl _))
        have Rc_102 := Lib.hid (RdE.below Rc_101.out (hb) (Nat.le_refl _))
        clear B101 Ra_101 Rb_101 Rc_101
        clear hb
        go_wp2_with fail
        refine (C2.out _ _ _ (by exact Ra_102.out) (by exact Rc_102.out)).mono ?_
        rintro e w103 ⟨rfl, hb⟩
        have B103 := Lib.hid (B102.out.trans (Below.mono (hb) z102))
        have z103 := B103.out.size
        have Ra_103 := Lib.hid (RdE.below Ra_102.out (hb) (Nat.le_refl _))
        have Rb_103 := Lib.hid (RdE.below Rb_102.out (hb) (Nat.le_refl _))
        have Rc_103 := Lib.hid (RdE.below Rc_102.out (hb) (Nat.le_refl _))
        clear B102 Ra_102 Rb_102 Rc_102
        clear hb
        go_wp2_with fail
        refine (C3.out _ _ _ (by exact Rb_103.out) (by exact Rc_103.out)).mono ?_
        rintro e w104 ⟨rfl, hb⟩
        have B104 := Lib.hid (B103.out.trans (Below.mono (hb) z103))
        have z104 := B104.out.size
        have Ra_104 := Lib.hid (RdE.below Ra_103.out (hb) (Nat.le_refl _))
        have Rb_104 := Lib.hid (RdE.below Rb_103.out (hb) (Nat.le_refl _))
        have Rc_104 := Lib.hid (RdE.below Rc_103.out (hb) (Nat.le_refl _))
        clear B103 Ra_103 Rb_103 Rc_103
        clear hb
        go_wp2_with fail
        refine (C4.out _ _ _ (by exact Ra_104.out) (by exact Ra_104.out)).mono ?_
        rintro e w105 ⟨rfl, hb⟩
        have B105 := Lib.hid (B104.out.trans (Below.mono (hb) z104))
        have z105 := B105.out.size
        have Ra_105 := Lib.hid (RdE.below Ra_104.out (hb) (Nat.le_refl _))
        have Rb_105 := Lib.hid (RdE.below Rb_104.out (hb) (Nat.le_refl _))
        have Rc_105 := Lib.hid (RdE.below Rc_104.out (hb) (Nat.le_refl _))
        clear B104 Ra_104 Rb_104 Rc_104
        clear hb
        go_wp2_with fail
        refine (known12_any _).mono ?_
        rintro e w106 ⟨rfl, hb⟩
        have B106 := Lib.hid (B105.out.trans (Below.mono (hb) z105))
        have z106 := B106.out.size
        have Ra_106 := Lib.hid (RdE.below Ra_105.out (hb) (Nat.le_refl _))
        have Rb_106 := Lib.hid (RdE.below Rb_105.out (hb) (Nat.le_refl _))
        have Rc_106 := Lib.hid (RdE.below Rc_105.out (hb) (Nat.le_refl _))
        clear B105 Ra_105 Rb_105 Rc_105
        clear hb
        go_wp2_with fail
        go_ret
        exact ⟨rfl, B106.out⟩
  · have hq : ((a.length : Int) == (b.length : Int)) = false := by simp; omega
    have HS : Hid (sameL a b = false) := sameL_len a b hlen
    clear hlen
    go_wp2_with fail
    go_loopw [10, 11] (fun sv i wr => sv = .bool false ∧ i = .int .i64 0 ∧ wr = w3) (fun _ _ _ => 0)
    case atStart => exact ⟨rfl, rfl, rfl⟩
    case round =>
      obtain ⟨rfl, rfl, rfl⟩ := hrel
      have HBW := Lib.hid (Below.refl wr.heap.size wr)
      have hS : (D == 0) = false := by rw [HZ.out]; exact HS.out
      clear HZ
      have Ra_100 := Lib.hid (RdE.below Ra_3.out HBW.out (Nat.le_refl _))
      have Rb_100 := Lib.hid (RdE.below Rb_3.out HBW.out (Nat.le_refl _))
      have Rc_100 := Lib.hid (RdE.below Rc_3.out HBW.out (Nat.le_refl _))
      have B100 := Lib.hid (B3.out.trans (HBW.out.mono z3))
      have z100 := B100.out.size
      go_wp2_with fail
      refine (C0.out _ _ _ (by exact Ra_100.out) (by exact Rb_100.out)).mono ?_
      rintro e w101 ⟨rfl, hb⟩
      have B101 := Lib.hid (B100.out.trans (Below.mono (hb) z100))
      have z101 := B101.out.size
      have Ra_101 := Lib.hid (RdE.below Ra_100.out (hb) (Nat.le_refl _))
      have Rb_101 := Lib.hid (RdE.below Rb_100.out (hb) (Nat.le_refl _))
      have Rc_101 := Lib.hid (RdE.below Rc_100.out (hb) (Nat.le_refl _))
      clear B100 Ra_100 Rb_100 Rc_100
      clear hb
      go_wp2_with fail
      refine (C1.out _ _ _ (by exact Rb_101.out) (by exact Ra_101.out)).mono ?_
      rintro e w102 ⟨rfl, hb⟩
      have B102 := Lib.hid (B101.out.trans (Below.mono (hb) z101))
      have z102 := B102.out.size
      have Ra_102 := Lib.hid (RdE.below Ra_101.out (hb) (Nat.le_refl _))
      have Rb_102 := Lib.hid (RdE.below Rb_101.out (hb) (Nat.le_refl _))
      have Rc_102 := Lib.hid (RdE.below Rc_101.out (hb) (Nat.le_refl _))
      clear B101 Ra_101 Rb_101 Rc_101
      clear hb
      go_wp2_with fail
      refine (C2.out _ _ _ (by exact Ra_102.out) (by exact Rc_102.out)).mono ?_
      rintro e w103 ⟨rfl, hb⟩
      have B103 := Lib.hid (B102.out.trans (Below.mono (hb) z102))
      have z103 := B103.out.size
      have Ra_103 := Lib.hid (RdE.below Ra_102.out (hb) (Nat.le_refl _))
      have Rb_103 := Lib.hid (RdE.below Rb_102.out (hb) (Nat.le_refl _))
      have Rc_103 := Lib.hid (RdE.below Rc_102.out (hb) (Nat.le_refl _))
      clear B102 Ra_102 Rb_102 Rc_102
      clear hb
      go_wp2_with fail
      refine (C3.out _ _ _ (by exact Rb_103.out) (by exact Rc_103.out)).mono ?_
      rintro e w104 ⟨rfl, hb⟩
      have B104 := Lib.hid (B103.out.trans (Below.mono (hb) z103))
      have z104 := B104.out.size
      have Ra_104 := Lib.hid (RdE.below Ra_103.out (hb) (Nat.le_refl _))
      have Rb_104 := Lib.hid (RdE.below Rb_103.out (hb) (Nat.le_refl _))
      have Rc_104 := Lib.hid (RdE.below Rc_103.out (hb) (Nat.le_refl _))
      clear B103 Ra_103 Rb_103 Rc_103
      clear hb
      go_wp2_with fail
      refine (C4.out _ _ _ (by exact Ra_104.out) (by exact Ra_104.out)).mono ?_
      rintro e w105 ⟨rfl, hb⟩
      have B105 := Lib.hid (B104.out.trans (Below.mono (hb) z104))
      have z105 := B105.out.size
      have Ra_105 := Lib.hid (RdE.below Ra_104.out (hb) (Nat.le_refl _))
      have Rb_105 := Lib.hid (RdE.below Rb_104.out (hb) (Nat.le_refl _))
      have Rc_105 := Lib.hid (RdE.below Rc_104.out (hb) (Nat.le_refl _))
      clear B104 Ra_104 Rb_104 Rc_104
      clear hb
      go_wp2_with fail
      refine (known12_any _).mono ?_
      rintro e w106 ⟨rfl, hb⟩
      have B106 := Lib.hid (B105.out.trans (Below.mono (hb) z105))
      have z106 := B106.out.size
      have Ra_106 := Lib.hid (RdE.below Ra_105.out (hb) (Nat.le_refl _))
      have Rb_106 := Lib.hid (RdE.below Rb_105.out (hb) (Nat.le_refl _))
      have Rc_106 := Lib.hid (RdE.below Rc_105.out (hb) (Nat.le_refl _))
      clear B105 Ra_105 Rb_105 Rc_105
      clear hb
      go_wp2_with fail
      go_ret
      exact ⟨rfl, B106.out⟩

end Go.Proofs.Yteccphcophjhpaa
