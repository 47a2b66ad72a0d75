
/-
  The walk of the law TokenTokens.
-/
import Derived.Test.YtfkjlaepknhicaaLaw11B
namespace Go.Proofs.Ytfkjlaepknhicaa
open Go.RowKit

set_option maxRecDepth 100000 in
set_option maxHeartbeats 8000000 in
theorem walk_TokenTokens (A : Option Addr) (n c : Nat) (f : List Tk) (s : ByteArray) (A2 : Option Addr) (n2 c2 : Nat) (l : List Int) (w : World) (h0 : ArgTS w A n c f) (hs : s.size ≤ maxLen)
    (h2 : n2 = l.length ∧ l.length ≤ maxLen ∧ RdE intC 1 w (.slice A2 n2 c2) l ∧ ∀ x ∈ l, IntIn x) :
    Calls Try.prog 3 #[.slice A n c, .string s, .slice A2 n2 c2] w fun e w' => e = .returned (.bool true) ∧ Below w.heap.size w w' := by
  obtain ⟨rfl, hfl, hrf, hfi⟩ := h0
  obtain ⟨rfl, hll, hrl, hli⟩ := h2
  unfold maxLen at hfl hs hll
  have HFI := Lib.hid hfi
  have HLI := Lib.hid hli
  clear hfi hli
  by_cases hfew : f.length ≤ 40 ∧ bytesOf f ≤ 600
  rotate_left
  · have HC := Lib.hid (few_no f _ w hrf hfl HFI.out hfew)
    go_enter Try.func3, Try.ntmps3
    go_wp2_with (first | (go_at_call 10; refine (HC.out).mono ?_; rintro e w' ⟨rfl, rfl⟩) | (go_at_call 11; refine (known_any _).mono ?_; rintro e w' ⟨rfl, hb'⟩))
    go_ret
    exact ⟨rfl, hb'⟩
  have HC := Lib.hid (few_yes f _ w hrf HFI.out hfew.1 hfew.2)
  by_cases h3 : 300 < s.size
  · go_enter Try.func3, Try.ntmps3
    go_wp2_with (first | (go_at_call 10; refine (HC.out).mono ?_; rintro e w' ⟨rfl, rfl⟩) | (go_at_call 11; refine (known_any _).mono ?_; rintro e w' ⟨rfl, hb'⟩))
    go_ret
    exact ⟨rfl, hb'⟩
  by_cases h4 : 100 < l.length
  · go_enter Try.func3, Try.ntmps3
    go_wp2_with (first | (go_at_call 10; refine (HC.out).mono ?_; rintro e w' ⟨rfl, rfl⟩) | (go_at_call 11; refine (known_any _).mono ?_; rintro e w' ⟨rfl, hb'⟩))
    go_ret
    exact ⟨rfl, hb'⟩
  obtain ⟨g1, g2, _, _⟩ := made_ok l
  have G1 := Lib.hid g1
  have G2 := Lib.hid g2
  have LT1 := tokensL_length f
  have LT2 := toks_len1 s
  have LT3 := tokensL_length (fragL l 0 8).f
  have CM := Lib.hid (fun (v : Value) (w : World) (h : RdE intC 1 w v l) => made_any l v w h HLI.out)
  generalize (fragL l 0 8).f = m at CM G1 G2 LT3 g1 g2
  obtain ⟨hf1, hf2⟩ := hfew
  go_enter Try.func3, Try.ntmps3
  have B0 := Lib.hid (Below.refl w.heap.size w)
  have z0 : w.heap.size ≤ w.heap.size := Nat.le_refl _
  have RF_0 := Lib.hid hrf
  have RL_0 := Lib.hid hrl
  clear hrf hrl
  go_wp2_with fail
  refine (HC.out).mono ?_
  rintro e w' ⟨rfl, rfl⟩
  go_wp2_with fail
  have B1 := Lib.hid (B0.out.trans (Below.mono ((Below.refl w.heap.size w).alloc (Nat.le_refl _) (.cells (tkC ⟨1, s, 0⟩).toArray 27)) z0))
  have z1 := B1.out.size
  have RF_1 := Lib.hid (RdE.below RF_0.out ((Below.refl w.heap.size w).alloc (Nat.le_refl _) (.cells (tkC ⟨1, s, 0⟩).toArray 27)) (Nat.le_refl _))
  have RL_1 := Lib.hid (RdE.below RL_0.out ((Below.refl w.heap.size w).alloc (Nat.le_refl _) (.cells (tkC ⟨1, s, 0⟩).toArray 27)) (Nat.le_refl _))
  clear B0 RF_0 RL_0
  have RT_1 := Lib.hid (RdT.one w ⟨1, s, 0⟩ 27)
  refine (tokens_any f _ _ (by exact RF_1.out) (by omega) (by omega)).mono ?_
  rintro e w2 ⟨va, rfl, hown, hb⟩
  have Ra_2 := Lib.hid (OwnE.rd tkC_three hown)
  obtain ⟨Aa, ca, hv⟩ := own_shape hown
  subst hv
  have B2 := Lib.hid (B1.out.trans (Below.mono (hb) z1))
  have z2 := B2.out.size
  have RF_2 := Lib.hid (RdE.below RF_1.out (hb) (Nat.le_refl _))
  have RL_2 := Lib.hid (RdE.below RL_1.out (hb) (Nat.le_refl _))
  have RT_2 := Lib.hid (RdE.below RT_1.out (hb) (Nat.le_refl _))
  clear B1 RF_1 RL_1 RT_1
  clear hown hb
  go_wp2_with fail
  refine (rtokens_any f _ _ (by exact RF_2.out) (by omega) (by omega)).mono ?_
  rintro e w3 ⟨vb, rfl, hown, hb⟩
  have Rb_3 := Lib.hid (OwnE.rd tkC_three hown)
  obtain ⟨Ab, cb, hv⟩ := own_shape hown
  subst hv
  have B3 := Lib.hid (B2.out.trans (Below.mono (hb) z2))
  have z3 := B3.out.size
  have RF_3 := Lib.hid (RdE.below RF_2.out (hb) (Nat.le_refl _))
  have RL_3 := Lib.hid (RdE.below RL_2.out (hb) (Nat.le_refl _))
  have RT_3 := Lib.hid (RdE.below RT_2.out (hb) (Nat.le_refl _))
  have Ra_3 := Lib.hid (RdE.below Ra_2.out (hb) (Nat.le_refl _))
  clear B2 RF_2 RL_2 RT_2 Ra_2
  clear hown hb
  go_wp2_with fail
  refine (same_yes _ _ _ _ (by exact Ra_3.out) (by exact Rb_3.out) (by omega)).mono ?_
  rintro e w4 ⟨rfl, n4, hw⟩
  have hb : Below w3.heap.size w3 w4 := by rw [hw]; exact below_drewN (Below.refl _ _) _
  have B4 := Lib.hid (B3.out.trans (Below.mono (hb) z3))
  have z4 := B4.out.size
  have RL_4 := Lib.hid (RdE.below RL_3.out (hb) (Nat.le_refl _))
  have RT_4 := Lib.hid (RdE.below RT_3.out (hb) (Nat.le_refl _))
  clear B3 RF_3 RL_3 RT_3 Ra_3 Rb_3
  clear hb hw
  go_wp2_with fail
  refine (tokens_any [⟨1, s, 0⟩] _ _ (by exact RT_4.out) (by simp) (by simp [bytesOf]; omega)).mono ?_
  rintro e w5 ⟨va, rfl, hown, hb⟩
  have Ra_5 := Lib.hid (OwnE.rd tkC_three hown)
  obtain ⟨Aa, ca, hv⟩ := own_shape hown
  subst hv
  have B5 := Lib.hid (B4.out.trans (Below.mono (hb) z4))
  have z5 := B5.out.size
  have RL_5 := Lib.hid (RdE.below RL_4.out (hb) (Nat.le_refl _))
  have RT_5 := Lib.hid (RdE.below RT_4.out (hb) (Nat.le_refl _))
  clear B4 RL_4 RT_4
  clear hown hb
  go_wp2_with fail
  refine (rtokens_any [⟨1, s, 0⟩] _ _ (by exact RT_5.out) (by simp) (by simp [bytesOf]; omega)).mono ?_
  rintro e w6 ⟨vb, rfl, hown, hb⟩
  have Rb_6 := Lib.hid (OwnE.rd tkC_three hown)
  obtain ⟨Ab, cb, hv⟩ := own_shape hown
  subst hv
  have B6 := Lib.hid (B5.out.trans (Below.mono (hb) z5))
  have z6 := B6.out.size
  have RL_6 := Lib.hid (RdE.below RL_5.out (hb) (Nat.le_refl _))
  have RT_6 := Lib.hid (RdE.below RT_5.out (hb) (Nat.le_refl _))
  have Ra_6 := Lib.hid (RdE.below Ra_5.out (hb) (Nat.le_refl _))
  clear B5 RL_5 RT_5 Ra_5
  clear hown hb
  go_wp2_with fail
  refine (same_yes _ _ _ _ (by exact Ra_6.out) (by exact Rb_6.out) (by omega)).mono ?_
  rintro e w7 ⟨rfl, n7, hw⟩
  have hb : Below w6.heap.size w6 w7 := by rw [hw]; exact below_drewN (Below.refl _ _) _
  have B7 := Lib.hid (B6.out.trans (Below.mono (hb) z6))
  have z7 := B7.out.size
  have RL_7 := Lib.hid (RdE.below RL_6.out (hb) (Nat.le_refl _))
  clear B6 RL_6 RT_6 Ra_6 Rb_6
  clear hb hw
  go_wp2_with fail
  refine (CM.out _ _ (by exact RL_7.out)).mono ?_
  rintro e w8 ⟨vM, rfl, hown, hb⟩
  have RM_8 := Lib.hid (OwnE.rd tkC_three hown)
  obtain ⟨AM, cM, hv⟩ := own_shape hown
  subst hv
  have B8 := Lib.hid (B7.out.trans (Below.mono (hb) z7))
  have z8 := B8.out.size
  have RL_8 := Lib.hid (RdE.below RL_7.out (hb) (Nat.le_refl _))
  clear B7 RL_7
  clear hown hb
  go_wp2_with fail
  refine (tokens_any m _ _ (by exact RM_8.out) (by have := G1.out; omega) (by have := G2.out; omega)).mono ?_
  rintro e w9 ⟨va, rfl, hown, hb⟩
  have Ra_9 := Lib.hid (OwnE.rd tkC_three hown)
  obtain ⟨Aa, ca, hv⟩ := own_shape hown
  subst hv
  have B9 := Lib.hid (B8.out.trans (Below.mono (hb) z8))
  have z9 := B9.out.size
  have RL_9 := Lib.hid (RdE.below RL_8.out (hb) (Nat.le_refl _))
  clear B8 RL_8 RM_8
  clear hown hb
  go_wp2_with fail
  refine (CM.out _ _ (by exact RL_9.out)).mono ?_
  rintro e w10 ⟨vM, rfl, hown, hb⟩
  have RM_10 := Lib.hid (OwnE.rd tkC_three hown)
  obtain ⟨AM, cM, hv⟩ := own_shape hown
  subst hv
  have B10 := Lib.hid (B9.out.trans (Below.mono (hb) z9))
  have z10 := B10.out.size
  have RL_10 := Lib.hid (RdE.below RL_9.out (hb) (Nat.le_refl _))
  have Ra_10 := Lib.hid (RdE.below Ra_9.out (hb) (Nat.le_refl _))
  clear B9 RL_9 Ra_9
  clear hown hb
  go_wp2_with fail
  refine (rtokens_any m _ _ (by exact RM_10.out) (by have := G1.out; omega) (by have := G2.out; omega)).mono ?_
  rintro e w11 ⟨vb, rfl, hown, hb⟩
  have Rb_11 := Lib.hid (OwnE.rd tkC_three hown)
  obtain ⟨Ab, cb, hv⟩ := own_shape hown
  subst hv
  have B11 := Lib.hid (B10.out.trans (Below.mono (hb) z10))
  have z11 := B11.out.size
  have Ra_11 := Lib.hid (RdE.below Ra_10.out (hb) (Nat.le_refl _))
  clear B10 RL_10 Ra_10 RM_10
  clear hown hb
  go_wp2_with fail
  refine (same_yes _ _ _ _ (by exact Ra_11.out) (by exact Rb_11.out) (by omega)).mono ?_
  rintro e w12 ⟨rfl, n12, hw⟩
  have hb : Below w11.heap.size w11 w12 := by rw [hw]; exact below_drewN (Below.refl _ _) _
  have B12 := Lib.hid (B11.out.trans (Below.mono (hb) z11))
  have z12 := B12.out.size
  clear B11 Ra_11 Rb_11
  clear hb hw
  go_wp2_with fail
  refine (known_any _).mono ?_
  rintro e w13 ⟨rfl, hb⟩
  have B13 := Lib.hid (B12.out.trans (Below.mono (hb) z12))
  have z13 := B13.out.size
  clear B12
  clear hb
  go_wp2_with fail
  go_ret
  exact ⟨rfl, B13.out⟩

end Go.Proofs.Ytfkjlaepknhicaa
