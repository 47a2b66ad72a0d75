
/-
  Chapter 13: percentages: the reference's walk.
-/
import Derived.Test.YtiigabojncnipaaScoreA
import Derived.Test.YtiigabojncnipaaDistD
namespace Go.Proofs.Ytiigabojncnipaa
open Go.RowKit

set_option maxHeartbeats 2000000 in
theorem rpercent_any (a b : List Tk) (va vb : Value) (w : World) (ha : RdT w va a) (hb : RdT w vb b) (hla : a.length ≤ 100000) (hlb : b.length ≤ 100000) (hia : ∀ x ∈ a, TkD x) (hib : ∀ x ∈ b, TkD x) :
    Calls Try.prog 14 #[va, vb] w fun e w' => e = .returned (.int .i64 (percI (bothI a b) (distI a b))) ∧ Below w.heap.size w w' := by
  obtain ⟨A, c, rfl, _, _⟩ := ha.shape
  obtain ⟨A2, c2, rfl, _, _⟩ := hb.shape
  have HA := Lib.hid ha
  have HB := Lib.hid hb
  have hbd := both_bd a b hla hlb
  have hd0 := distI_nonneg a b
  have hd1 := distI_bound a b
  have CD := Lib.hid (fun (v u : Value) (w : World) (h : RdT w v a) (h' : RdT w u b) => rdist_any a b v u w h h' hla hlb hia hib)
  have CB := Lib.hid (fun (v u : Value) (w : World) (h : RdT w v a) (h' : RdT w u b) => rboth_any a b v u w h h' hla hlb)
  generalize distI a b = D at CD hd0 hd1
  generalize bothI a b = t at CB hbd
  clear ha hb hia hib
  go_enter Try.func14, Try.ntmps14
  go_wp2_with fail
  refine (CB.out _ _ _ (by exact HA.out) (by exact HB.out)).mono ?_
  rintro e w1 ⟨rfl, hb1⟩
  have RA := Lib.hid (RdE.below HA.out hb1 (Nat.le_refl _))
  have RB := Lib.hid (RdE.below HB.out hb1 (Nat.le_refl _))
  have B1 := Lib.hid hb1
  have z1 := hb1.size
  clear hb1
  by_cases h0 : t = 0
  · subst h0
    go_wp2_with fail
    go_ret
    exact ⟨by rfl, B1.out⟩
  · have h0' : (t == 0) = false := by simpa using h0
    have ht : 0 < t := by omega
    have e1 : IntKind.i64.wrap (t - D) = t - D := by rw [IntKind.wrap_i64]; omega
    have e2 : IntKind.i64.wrap (100 * (t - D)) = 100 * (t - D) := by rw [IntKind.wrap_i64]; omega
    have HP : Hid (percI t D = max 0 ((100 * (t - D)).tdiv t)) := by
      show percI t D = _
      unfold percI
      rw [if_neg h0, perc_ref t D ht]
    have hq : (100 * (t - D)).tdiv t ≤ 100 * max (t - D) 0 ∧ -(100 * max (D - t) 0) ≤ (100 * (t - D)).tdiv t := by
      by_cases h : 0 ≤ t - D
      · have h1 := Int.tdiv_nonneg (a := 100 * (t - D)) (b := t) (by omega) (by omega)
        have h2 := Int.ediv_le_self (a := 100 * (t - D)) t (by omega)
        rw [← Int.tdiv_eq_ediv_of_nonneg (by omega)] at h2
        omega
      · have e3 : (100 * (t - D)).tdiv t = -((100 * (D - t)).tdiv t) := by
          rw [← Int.neg_tdiv]
          congr 1
          omega
        have h1 := Int.tdiv_nonneg (a := 100 * (D - t)) (b := t) (by omega) (by omega)
        have h2 := Int.ediv_le_self (a := 100 * (D - t)) t (by omega)
        rw [← Int.tdiv_eq_ediv_of_nonneg (by omega)] at h2
        omega
    have e3 : IntKind.i64.wrap ((100 * (t - D)).tdiv t) = (100 * (t - D)).tdiv t := by clear e1 e2; rw [IntKind.wrap_i64]; omega
    rcases (show t - D < 0 ∨ 0 ≤ t - D by omega) with hlt | hge
    · clear hq
      go_wp2_with fail
      refine (CD.out _ _ _ (by exact RA.out) (by exact RB.out)).mono ?_
      rintro e w2 ⟨rfl, hb2⟩
      have B2 := Lib.hid (B1.out.trans (hb2.mono z1))
      clear hb2
      go_wp2_with fail
      all_goals
        go_ret
        refine ⟨ret_int ?_, B2.out⟩
        rw [HP.out]
        clear e1 e2 e3
        omega
    · have hT : Hid ((100 * (t - D)).tdiv t = 100 * (t - D) / t) := Int.tdiv_eq_ediv_of_nonneg (by clear e1 e2 e3; omega)
      rw [hT.out] at HP e3 hq
      clear hq
      go_wp2_with fail
      refine (CD.out _ _ _ (by exact RA.out) (by exact RB.out)).mono ?_
      rintro e w2 ⟨rfl, hb2⟩
      have B2 := Lib.hid (B1.out.trans (hb2.mono z1))
      clear hb2
      go_wp2_with fail
      all_goals
        go_ret
        refine ⟨ret_int ?_, B2.out⟩
        rw [HP.out]
        clear e1 e2 e3
        omega

end Go.Proofs.Ytiigabojncnipaa
