
/-
  The walk of the law TokenRoundTrips.
-/
import Derived.Test.YtfkjlaepknhicaaLaw11B
import Derived.Test.YtfkjlaepknhicaaJoin
namespace Go.Proofs.Ytfkjlaepknhicaa
open Go.RowKit

set_option maxRecDepth 100000 in
set_option maxHeartbeats 8000000 in
theorem walk_TokenRoundTrips (A : Option Addr) (n c : Nat) (l : List Int) (s : ByteArray) (w : World) (h0 : n = l.length ∧ l.length ≤ maxLen ∧ RdE intC 1 w (.slice A n c) l ∧ ∀ x ∈ l, IntIn x) (hs : s.size ≤ maxLen) :
    Calls Try.prog 9 #[.slice A n c, .string s] w fun e w' => e = .returned (.bool true) ∧ Below w.heap.size w w' := by
  obtain ⟨rfl, hll, hrl, hli⟩ := h0
  unfold maxLen at hll hs
  have HLI := Lib.hid hli
  clear hli
  by_cases h4 : 100 < l.length
  · go_enter Try.func9, Try.ntmps9
    go_wp2_with (go_at_call 11; refine (known_any _).mono ?_; rintro e w' ⟨rfl, hb'⟩)
    go_ret
    exact ⟨rfl, hb'⟩
  by_cases h3 : 300 < s.size
  · go_enter Try.func9, Try.ntmps9
    go_wp2_with (go_at_call 11; refine (known_any _).mono ?_; rintro e w' ⟨rfl, hb'⟩)
    go_ret
    exact ⟨rfl, hb'⟩
  obtain ⟨g1, g2, g3, _⟩ := made_ok l
  have HCM := Lib.hid (made_any l _ w hrl HLI.out)
  generalize (fragL l 0 8).f = m at HCM g1 g2 g3
  have hk : Kinds (m ++ [(⟨1, s, 0⟩ : Tk)]) := by
    intro y hy
    rcases List.mem_append.1 hy with hy | hy
    · exact g3 y hy
    · rw [List.mem_singleton.1 hy]; show (1 : Int) ≤ 1 ∧ (1 : Int) ≤ 5; decide
  have hrt := round_trip (normL (m ++ [⟨1, s, 0⟩])) (Kinds.norm _ hk) (normL_normal _)
  have c1 := normL_length (m ++ [(⟨1, s, 0⟩ : Tk)])
  have c2 := normL_bytes (m ++ [(⟨1, s, 0⟩ : Tk)])
  rw [List.length_append, List.length_singleton] at c1
  rw [bytesOf_append, bytesOf_one] at c2
  have HCC := Lib.hid (fun (v u : Value) (w : World) (h : RdT w v m) (h' : RdT w u [⟨1, s, 0⟩]) => rconcat_any m [⟨1, s, 0⟩] v u w h h' (by rw [List.length_singleton]; omega) (by rw [bytesOf_one]; show bytesOf m + s.size ≤ 1000000; omega))
  have c3 : bytesOf (normL (m ++ [(⟨1, s, 0⟩ : Tk)])) ≤ 500 := by rw [c2]; show bytesOf m + s.size ≤ 500; omega
  generalize normL (m ++ [(⟨1, s, 0⟩ : Tk)]) = C at hrt HCC c1 c2 c3
  have t1 := tokensL_length C
  have t2 := bytesOf_tokens C
  have HJ := Lib.hid (fun (v : Value) (w : World) (h : RdT w v (tokensL C)) => join_any (tokensL C) v w h (by omega) (by omega))
  rw [hrt] at HJ
  clear hrt c2 hk
  go_enter Try.func9, Try.ntmps9
  have B0 := Lib.hid (Below.refl w.heap.size w)
  have z0 : w.heap.size ≤ w.heap.size := Nat.le_refl _
  go_wp2_with fail
  refine (HCM.out).mono ?_
  rintro e w1 ⟨vM, rfl, hown, hb⟩
  have RM_1 := Lib.hid (OwnE.rd tkC_three hown)
  obtain ⟨AM, cM, hv⟩ := own_shape hown
  subst hv
  have B1 := Lib.hid (B0.out.trans (Below.mono (hb) z0))
  have z1 := B1.out.size
  clear B0
  clear hown hb
  go_wp2_with fail
  have B2 := Lib.hid (B1.out.trans (Below.mono ((Below.refl w1.heap.size w1).alloc (Nat.le_refl _) (.cells (tkC ⟨1, s, 0⟩).toArray 27)) z1))
  have z2 := B2.out.size
  have RM_2 := Lib.hid (RdE.below RM_1.out ((Below.refl w1.heap.size w1).alloc (Nat.le_refl _) (.cells (tkC ⟨1, s, 0⟩).toArray 27)) (Nat.le_refl _))
  clear B1 RM_1
  have RT_2 := Lib.hid (RdT.one w1 ⟨1, s, 0⟩ 27)
  refine (HCC.out _ _ _ (by exact RM_2.out) (by exact RT_2.out)).mono ?_
  rintro e w3 ⟨vC, rfl, hown, hb⟩
  have RC_3 := Lib.hid (OwnE.rd tkC_three hown)
  obtain ⟨AC, cC, hv⟩ := own_shape hown
  subst hv
  have B3 := Lib.hid (B2.out.trans (Below.mono (hb) z2))
  have z3 := B3.out.size
  clear B2 RM_2 RT_2
  clear hown hb
  go_wp2_with fail
  refine (tokens_any C _ _ (by exact RC_3.out) (by omega) (by omega)).mono ?_
  rintro e w4 ⟨vK, rfl, hown, hb⟩
  have RK_4 := Lib.hid (OwnE.rd tkC_three hown)
  obtain ⟨AK, cK, hv⟩ := own_shape hown
  subst hv
  have B4 := Lib.hid (B3.out.trans (Below.mono (hb) z3))
  have z4 := B4.out.size
  have RC_4 := Lib.hid (RdE.below RC_3.out (hb) (Nat.le_refl _))
  clear B3 RC_3
  clear hown hb
  go_wp2_with fail
  refine (HJ.out _ _ (by exact RK_4.out)).mono ?_
  rintro e w5 ⟨vJ, rfl, hown, hb⟩
  have RJ_5 := Lib.hid (OwnE.rd tkC_three hown)
  obtain ⟨AJ, cJ, hv⟩ := own_shape hown
  subst hv
  have B5 := Lib.hid (B4.out.trans (Below.mono (hb) z4))
  have z5 := B5.out.size
  have RC_5 := Lib.hid (RdE.below RC_4.out (hb) (Nat.le_refl _))
  clear B4 RC_4 RK_4
  clear hown hb
  go_wp2_with fail
  refine (same3_yes _ _ _ _ (by exact RJ_5.out) (by exact RC_5.out) (by omega)).mono ?_
  rintro e w6 ⟨rfl, n6, hw⟩
  have hb : Below w5.heap.size w5 w6 := by rw [hw]; exact below_drewN (Below.refl _ _) _
  have B6 := Lib.hid (B5.out.trans (Below.mono (hb) z5))
  have z6 := B6.out.size
  clear B5 RC_5 RJ_5
  clear hb hw
  go_wp2_with fail
  refine (known_any _).mono ?_
  rintro e w7 ⟨rfl, hb⟩
  have B7 := Lib.hid (B6.out.trans (Below.mono (hb) z6))
  have z7 := B7.out.size
  clear B6
  clear hb
  go_wp2_with fail
  go_ret
  exact ⟨rfl, B7.out⟩

end Go.Proofs.Ytfkjlaepknhicaa
