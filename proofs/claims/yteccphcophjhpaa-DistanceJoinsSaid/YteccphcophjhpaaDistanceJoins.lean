
/-
  The walk of the law DistanceJoins.
-/
import Derived.Test.YteccphcophjhpaaLaw12B
import Derived.Deep.RegionHeld3
namespace Go.Proofs.Yteccphcophjhpaa
open Go.RowKit

set_option maxRecDepth 100000 in
set_option maxHeartbeats 8000000 in
theorem walk_DistanceJoins (A0 : Option Addr) (n0 c0 : Nat) (l : List Int) (A1 : Option Addr) (n1 c1 : Nat) (m : List Int) (A2 : Option Addr) (n2 c2 : Nat) (n : List Int) (w : World) (h0 : n0 = l.length ∧ l.length ≤ maxLen ∧ RdE intC 1 w (.slice A0 n0 c0) l ∧ ∀ x ∈ l, IntIn x) (h1 : n1 = m.length ∧ m.length ≤ maxLen ∧ RdE intC 1 w (.slice A1 n1 c1) m ∧ ∀ x ∈ m, IntIn x) (h2 : n2 = n.length ∧ n.length ≤ maxLen ∧ RdE intC 1 w (.slice A2 n2 c2) n ∧ ∀ x ∈ n, IntIn x) :
    Calls Try.prog 7 #[.slice A0 n0 c0, .slice A1 n1 c1, .slice A2 n2 c2] w fun e w' => e = .returned (.bool true) ∧ Below w.heap.size w w' := by
  obtain ⟨rfl, hl0, hr0, hi0⟩ := h0
  have HI0 := Lib.hid hi0
  unfold maxLen at hl0
  clear hi0
  obtain ⟨rfl, hl1, hr1, hi1⟩ := h1
  have HI1 := Lib.hid hi1
  unfold maxLen at hl1
  clear hi1
  obtain ⟨rfl, hl2, hr2, hi2⟩ := h2
  have HI2 := Lib.hid hi2
  unfold maxLen at hl2
  clear hi2
  by_cases k0 : 60 < l.length
  · go_enter Try.func7, Try.ntmps7
    go_wp2_with (go_at_call 12; refine (known12_any _).mono ?_; rintro e w' ⟨rfl, hb'⟩)
    go_ret
    exact ⟨rfl, hb'⟩
  by_cases k1 : 60 < m.length
  · go_enter Try.func7, Try.ntmps7
    go_wp2_with (go_at_call 12; refine (known12_any _).mono ?_; rintro e w' ⟨rfl, hb'⟩)
    go_ret
    exact ⟨rfl, hb'⟩
  by_cases k2 : 60 < n.length
  · go_enter Try.func7, Try.ntmps7
    go_wp2_with (go_at_call 12; refine (known12_any _).mono ?_; rintro e w' ⟨rfl, hb'⟩)
    go_ret
    exact ⟨rfl, hb'⟩
  have M0 := mk_made l 10
  have HM0 := Lib.hid (fun (w : World) (h : RdE intC 1 w (.slice A0 l.length c0) l) => made12_any l 10 _ w h HI0.out (by decide))
  generalize mkT l 10 = a at M0 HM0
  have L0 := M0.len
  have D0 := Lib.hid M0.toD
  have M1 := mk_made m 10
  have HM1 := Lib.hid (fun (w : World) (h : RdE intC 1 w (.slice A1 m.length c1) m) => made12_any m 10 _ w h HI1.out (by decide))
  generalize mkT m 10 = b at M1 HM1
  have L1 := M1.len
  have D1 := Lib.hid M1.toD
  have M2 := mk_made n 6
  have HM2 := Lib.hid (fun (w : World) (h : RdE intC 1 w (.slice A2 n.length c2) n) => made12_any n 6 _ w h HI2.out (by decide))
  generalize mkT n 6 = pc at M2 HM2
  have L2 := M2.len
  have D2 := Lib.hid M2.toD
  have dd : ∀ (x y : List Tk), (∀ z ∈ x, TkD z) → (∀ z ∈ y, TkD z) → ∀ z ∈ x ++ y, TkD z := fun x y hx hy z hz => (List.mem_append.1 hz).elim (hx z) (hy z)
  have C0 := Lib.hid (fun (v u : Value) (w : World) (h : RdT w v a) (h' : RdT w u b) => dist_any a b v u w h h' (by omega) (by omega) D0.out D1.out)
  have c1 := fun (v u : Value) (w : World) (h : RdT w v (pc ++ a)) (h' : RdT w u (pc ++ b)) => dist_any (pc ++ a) (pc ++ b) v u w h h' (by rw [List.length_append]; omega) (by rw [List.length_append]; omega) (dd _ _ D2.out D0.out) (dd _ _ D2.out D1.out)
  rw [distI_heads] at c1
  have c2 := fun (v u : Value) (w : World) (h : RdT w v (a ++ pc)) (h' : RdT w u (b ++ pc)) => dist_any (a ++ pc) (b ++ pc) v u w h h' (by rw [List.length_append]; omega) (by rw [List.length_append]; omega) (dd _ _ D0.out D2.out) (dd _ _ D1.out D2.out)
  rw [distI_tails] at c2
  have C1 := Lib.hid c1
  have C2 := Lib.hid c2
  clear c1 c2 dd
  generalize distI a b = D at C0 C1 C2
  go_enter Try.func7, Try.ntmps7
  have B0 := Lib.hid (Below.refl w.heap.size w)
  have z0 : w.heap.size ≤ w.heap.size := Nat.le_refl _
  have RL_0 := Lib.hid hr0
  have RM_0 := Lib.hid hr1
  have RN_0 := Lib.hid hr2
  clear hr0 hr1 hr2
  go_wp2_with fail
  refine (HM0.out _ (by exact RL_0.out)).mono ?_
  rintro e w1 ⟨va, rfl, hown, hb⟩
  have Ra_1 := Lib.hid (OwnE.rd tkC_three hown)
  obtain ⟨Aa, ca, hv⟩ := own_shape hown
  subst hv
  have B1 := Lib.hid (B0.out.trans (Below.mono (hb) z0))
  have z1 := B1.out.size
  have RM_1 := Lib.hid (RdE.below RM_0.out (hb) (Nat.le_refl _))
  have RN_1 := Lib.hid (RdE.below RN_0.out (hb) (Nat.le_refl _))
  clear B0 RL_0 RM_0 RN_0
  clear hown hb
  go_wp2_with fail
  refine (HM1.out _ (by exact RM_1.out)).mono ?_
  rintro e w2 ⟨vb, rfl, hown, hb⟩
  have Rb_2 := Lib.hid (OwnE.rd tkC_three hown)
  obtain ⟨Ab, cb, hv⟩ := own_shape hown
  subst hv
  have B2 := Lib.hid (B1.out.trans (Below.mono (hb) z1))
  have z2 := B2.out.size
  have RN_2 := Lib.hid (RdE.below RN_1.out (hb) (Nat.le_refl _))
  have Ra_2 := Lib.hid (RdE.below Ra_1.out (hb) (Nat.le_refl _))
  clear B1 RM_1 RN_1 Ra_1
  clear hown hb
  go_wp2_with fail
  refine (HM2.out _ (by exact RN_2.out)).mono ?_
  rintro e w3 ⟨vc, rfl, hown, hb⟩
  have Rc_3 := Lib.hid (OwnE.rd tkC_three hown)
  obtain ⟨Ac, cc, hv⟩ := own_shape hown
  subst hv
  have B3 := Lib.hid (B2.out.trans (Below.mono (hb) z2))
  have z3 := B3.out.size
  have Ra_3 := Lib.hid (RdE.below Ra_2.out (hb) (Nat.le_refl _))
  have Rb_3 := Lib.hid (RdE.below Rb_2.out (hb) (Nat.le_refl _))
  clear B2 RN_2 Ra_2 Rb_2
  clear hown hb
  go_wp2_with (at_builtin; first
      | (refine wpList_appE rfl (.const (.slice none 0 0)) (.tmp 35) 26 23 rfl Try.underlying26 _ tkC 3 32 tok_info rfl (by decide) tkC_three tkC_one w3.heap.size _ ([] : List Tk) rfl OwnE.nil _ pc rfl (by exact Rc_3.out) (by simp; omega) (by decide) (Nat.le_refl _) ?_; intro vv wp4 hown hbel hgr; have hbp := Lib.hid (hbel _ _ (Nat.le_refl _) (Below.refl _ _)); rw [List.nil_append] at hown; have HOP := Lib.hid hown; have HYP := Lib.hid (RdE.below Ra_3.out hbp.out (Nat.le_refl _)); have hzp := hbp.out.size; clear hown hbel hgr)
      | (refine wpList_appE rfl (.tmp 36) (.tmp 37) 26 23 rfl Try.underlying26 _ tkC 3 32 tok_info rfl (by decide) tkC_three tkC_one w3.heap.size _ pc rfl (by exact HOP.out) _ a rfl (by exact HYP.out) (by omega) (by decide) hzp ?_; intro vv w4 hown hbel hgr; have hb := hbel _ _ (Nat.le_refl _) hbp.out; have B4 := Lib.hid (B3.out.trans (Below.mono (hb) z3)); have z4 := B4.out.size; have Ra_4 := Lib.hid (RdE.below Ra_3.out (hb) (Nat.le_refl _)); have Rb_4 := Lib.hid (RdE.below Rb_3.out (hb) (Nat.le_refl _)); have Rc_4 := Lib.hid (RdE.below Rc_3.out (hb) (Nat.le_refl _)); clear B3 Ra_3 Rb_3 Rc_3; obtain ⟨Ax, cx, hv⟩ := own_shape hown; subst hv; have hrr := OwnE.rd tkC_three hown; rw [List.length_append] at hrr; have Rx_4 := Lib.hid hrr; clear hown hbel hgr hb hbp HOP HYP hzp hrr)
      | (refine wpList_appE rfl (.const (.slice none 0 0)) (.tmp 39) 26 23 rfl Try.underlying26 _ tkC 3 32 tok_info rfl (by decide) tkC_three tkC_one w4.heap.size _ ([] : List Tk) rfl OwnE.nil _ pc rfl (by exact Rc_4.out) (by simp; omega) (by decide) (Nat.le_refl _) ?_; intro vv wp5 hown hbel hgr; have hbp := Lib.hid (hbel _ _ (Nat.le_refl _) (Below.refl _ _)); rw [List.nil_append] at hown; have HOP := Lib.hid hown; have HYP := Lib.hid (RdE.below Rb_4.out hbp.out (Nat.le_refl _)); have hzp := hbp.out.size; clear hown hbel hgr)
      | (refine wpList_appE rfl (.tmp 40) (.tmp 41) 26 23 rfl Try.underlying26 _ tkC 3 32 tok_info rfl (by decide) tkC_three tkC_one w4.heap.size _ pc rfl (by exact HOP.out) _ b rfl (by exact HYP.out) (by omega) (by decide) hzp ?_; intro vv w5 hown hbel hgr; have hb := hbel _ _ (Nat.le_refl _) hbp.out; have B5 := Lib.hid (B4.out.trans (Below.mono (hb) z4)); have z5 := B5.out.size; have Ra_5 := Lib.hid (RdE.below Ra_4.out (hb) (Nat.le_refl _)); have Rb_5 := Lib.hid (RdE.below Rb_4.out (hb) (Nat.le_refl _)); have Rc_5 := Lib.hid (RdE.below Rc_4.out (hb) (Nat.le_refl _)); have Rx_5 := Lib.hid (RdE.below Rx_4.out (hb) (Nat.le_refl _)); clear B4 Ra_4 Rb_4 Rc_4 Rx_4; obtain ⟨Ay, cy, hv⟩ := own_shape hown; subst hv; have hrr := OwnE.rd tkC_three hown; rw [List.length_append] at hrr; have Ry_5 := Lib.hid hrr; clear hown hbel hgr hb hbp HOP HYP hzp hrr)
      | (refine wpList_appE rfl (.const (.slice none 0 0)) (.tmp 43) 26 23 rfl Try.underlying26 _ tkC 3 32 tok_info rfl (by decide) tkC_three tkC_one w5.heap.size _ ([] : List Tk) rfl OwnE.nil _ a rfl (by exact Ra_5.out) (by simp; omega) (by decide) (Nat.le_refl _) ?_; intro vv wp6 hown hbel hgr; have hbp := Lib.hid (hbel _ _ (Nat.le_refl _) (Below.refl _ _)); rw [List.nil_append] at hown; have HOP := Lib.hid hown; have HYP := Lib.hid (RdE.below Rc_5.out hbp.out (Nat.le_refl _)); have hzp := hbp.out.size; clear hown hbel hgr)
      | (refine wpList_appE rfl (.tmp 44) (.tmp 45) 26 23 rfl Try.underlying26 _ tkC 3 32 tok_info rfl (by decide) tkC_three tkC_one w5.heap.size _ a rfl (by exact HOP.out) _ pc rfl (by exact HYP.out) (by omega) (by decide) hzp ?_; intro vv w6 hown hbel hgr; have hb := hbel _ _ (Nat.le_refl _) hbp.out; have B6 := Lib.hid (B5.out.trans (Below.mono (hb) z5)); have z6 := B6.out.size; have Ra_6 := Lib.hid (RdE.below Ra_5.out (hb) (Nat.le_refl _)); have Rb_6 := Lib.hid (RdE.below Rb_5.out (hb) (Nat.le_refl _)); have Rc_6 := Lib.hid (RdE.below Rc_5.out (hb) (Nat.le_refl _)); have Rx_6 := Lib.hid (RdE.below Rx_5.out (hb) (Nat.le_refl _)); have Ry_6 := Lib.hid (RdE.below Ry_5.out (hb) (Nat.le_refl _)); clear B5 Ra_5 Rb_5 Rc_5 Rx_5 Ry_5; obtain ⟨Az, cz, hv⟩ := own_shape hown; subst hv; have hrr := OwnE.rd tkC_three hown; rw [List.length_append] at hrr; have Rz_6 := Lib.hid hrr; clear hown hbel hgr hb hbp HOP HYP hzp hrr)
      | (refine wpList_appE rfl (.const (.slice none 0 0)) (.tmp 47) 26 23 rfl Try.underlying26 _ tkC 3 32 tok_info rfl (by decide) tkC_three tkC_one w6.heap.size _ ([] : List Tk) rfl OwnE.nil _ b rfl (by exact Rb_6.out) (by simp; omega) (by decide) (Nat.le_refl _) ?_; intro vv wp7 hown hbel hgr; have hbp := Lib.hid (hbel _ _ (Nat.le_refl _) (Below.refl _ _)); rw [List.nil_append] at hown; have HOP := Lib.hid hown; have HYP := Lib.hid (RdE.below Rc_6.out hbp.out (Nat.le_refl _)); have hzp := hbp.out.size; clear hown hbel hgr)
      | (refine wpList_appE rfl (.tmp 48) (.tmp 49) 26 23 rfl Try.underlying26 _ tkC 3 32 tok_info rfl (by decide) tkC_three tkC_one w6.heap.size _ b rfl (by exact HOP.out) _ pc rfl (by exact HYP.out) (by omega) (by decide) hzp ?_; intro vv w7 hown hbel hgr; have hb := hbel _ _ (Nat.le_refl _) hbp.out; have B7 := Lib.hid (B6.out.trans (Below.mono (hb) z6)); have z7 := B7.out.size; have Ra_7 := Lib.hid (RdE.below Ra_6.out (hb) (Nat.le_refl _)); have Rb_7 := Lib.hid (RdE.below Rb_6.out (hb) (Nat.le_refl _)); have Rc_7 := Lib.hid (RdE.below Rc_6.out (hb) (Nat.le_refl _)); have Rx_7 := Lib.hid (RdE.below Rx_6.out (hb) (Nat.le_refl _)); have Ry_7 := Lib.hid (RdE.below Ry_6.out (hb) (Nat.le_refl _)); have Rz_7 := Lib.hid (RdE.below Rz_6.out (hb) (Nat.le_refl _)); clear B6 Ra_6 Rb_6 Rc_6 Rx_6 Ry_6 Rz_6; obtain ⟨Au, cu, hv⟩ := own_shape hown; subst hv; have hrr := OwnE.rd tkC_three hown; rw [List.length_append] at hrr; have Ru_7 := Lib.hid hrr; clear hown hbel hgr hb hbp HOP HYP hzp hrr))
  refine (C0.out _ _ _ (by exact Ra_7.out) (by exact Rb_7.out)).mono ?_
  rintro e w8 ⟨rfl, hb⟩
  have B8 := Lib.hid (B7.out.trans (Below.mono (hb) z7))
  have z8 := B8.out.size
  have Rx_8 := Lib.hid (RdE.below Rx_7.out (hb) (Nat.le_refl _))
  have Ry_8 := Lib.hid (RdE.below Ry_7.out (hb) (Nat.le_refl _))
  have Rz_8 := Lib.hid (RdE.below Rz_7.out (hb) (Nat.le_refl _))
  have Ru_8 := Lib.hid (RdE.below Ru_7.out (hb) (Nat.le_refl _))
  clear B7 Ra_7 Rb_7 Rc_7 Rx_7 Ry_7 Rz_7 Ru_7
  clear hb
  go_wp2_with fail
  refine (C1.out _ _ _ (by exact Rx_8.out) (by exact Ry_8.out)).mono ?_
  rintro e w9 ⟨rfl, hb⟩
  have B9 := Lib.hid (B8.out.trans (Below.mono (hb) z8))
  have z9 := B9.out.size
  have Rz_9 := Lib.hid (RdE.below Rz_8.out (hb) (Nat.le_refl _))
  have Ru_9 := Lib.hid (RdE.below Ru_8.out (hb) (Nat.le_refl _))
  clear B8 Rx_8 Ry_8 Rz_8 Ru_8
  clear hb
  go_wp2_with fail
  refine (C2.out _ _ _ (by exact Rz_9.out) (by exact Ru_9.out)).mono ?_
  rintro e w10 ⟨rfl, hb⟩
  have B10 := Lib.hid (B9.out.trans (Below.mono (hb) z9))
  have z10 := B10.out.size
  clear B9 Rz_9 Ru_9
  clear hb
  go_wp2_with fail
  refine (known12_any _).mono ?_
  rintro e w11 ⟨rfl, hb⟩
  have B11 := Lib.hid (B10.out.trans (Below.mono (hb) z10))
  have z11 := B11.out.size
  clear B10
  clear hb
  go_wp2_with fail
  go_ret
  exact ⟨rfl, B11.out⟩

end Go.Proofs.Yteccphcophjhpaa
