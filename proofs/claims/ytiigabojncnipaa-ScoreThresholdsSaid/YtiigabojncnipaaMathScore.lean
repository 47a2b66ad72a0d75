
/-
  Percentages: plain.
-/
import Derived.Test.YtiigabojncnipaaMathSur
import Derived.Test.YtiigabojncnipaaTokI
namespace Go.Proofs.Ytiigabojncnipaa
open Go.RowKit

def apiMax : Int := 1073741824
/-- The greatest distance that a percentage allows. -/
def allowI (t p : Int) : Int := if 100 < p then -1 else if p < 1 ∨ t < 1 then apiMax else (min t apiMax * (100 - p)).tdiv 100
theorem allow_in (t p : Int) (hp : 1 ≤ p ∧ p ≤ 100) (h1 : 1 ≤ t) : 0 ≤ min t apiMax * (100 - p) ∧ min t apiMax * (100 - p) ≤ apiMax * 99 := by
  unfold apiMax at *
  have h0 : 0 ≤ min t 1073741824 := by omega
  refine ⟨Int.mul_nonneg h0 (by omega), Int.le_trans (Int.mul_le_mul_of_nonneg_right (Int.min_le_right _ _) (by omega)) ?_⟩
  omega
def bothI (a b : List Tk) : Int := max (totalL a) (totalL b)
def percI (t d : Int) : Int := if t = 0 then 100 else (100 * max (t - d) 0).tdiv t
theorem perc_ref (t d : Int) (ht : 0 < t) : max 0 ((100 * (t - d)).tdiv t) = (100 * max (t - d) 0).tdiv t := by
  by_cases h : 0 ≤ t - d
  · have e : max (t - d) 0 = t - d := by omega
    rw [e]
    have := Int.tdiv_nonneg (a := 100 * (t - d)) (b := t) (by omega) (by omega)
    omega
  · have e : max (t - d) 0 = 0 := by omega
    rw [e, Int.mul_zero, Int.zero_tdiv]
    have h1 : (100 * (t - d)).tdiv t = -((100 * (d - t)).tdiv t) := by
      rw [← Int.neg_tdiv]
      congr 1
      omega
    have := Int.tdiv_nonneg (a := 100 * (d - t)) (b := t) (by omega) (by omega)
    omega
theorem perc_bd (t d : Int) (ht : 0 ≤ t) (hd : 0 ≤ d) : 0 ≤ percI t d ∧ percI t d ≤ 100 := by
  unfold percI
  by_cases h0 : t = 0
  · rw [if_pos h0]; omega
  · rw [if_neg h0, Int.tdiv_eq_ediv_of_nonneg (by omega)]
    refine ⟨Int.ediv_nonneg (by omega) (by omega), ?_⟩
    have : 100 * max (t - d) 0 ≤ 100 * t := by omega
    exact Int.ediv_le_of_le_mul (by omega) (by omega)
theorem perc_full (t d : Int) (ht : 0 < t) (hd : 0 ≤ d) : percI t d = 100 ↔ d = 0 := by
  unfold percI
  rw [if_neg (by omega), Int.tdiv_eq_ediv_of_nonneg (by omega)]
  constructor
  · intro h
    have h1 := (Int.le_ediv_iff_mul_le (c := t) ht (a := 100) (b := 100 * max (t - d) 0)).1 (by omega)
    omega
  · rintro rfl
    have e : max (t - 0) 0 = t := by omega
    rw [e, Int.mul_ediv_cancel _ (by omega)]
theorem perc_reach (t d p : Int) (ht : 0 ≤ t) (htm : t ≤ apiMax) (hd : 0 ≤ d) (hdm : d ≤ apiMax) (hp : 1 ≤ p ∧ p ≤ 100) : p ≤ percI t d ↔ d ≤ allowI t p := by
  unfold percI allowI
  rw [if_neg (show ¬ 100 < p by omega)]
  by_cases h0 : t = 0
  · rw [if_pos h0, if_pos (show p < 1 ∨ t < 1 by omega)]
    omega
  · rw [if_neg h0, if_neg (show ¬ (p < 1 ∨ t < 1) by omega)]
    have e : min t apiMax = t := by omega
    rw [e, Int.tdiv_eq_ediv_of_nonneg (by omega), Int.tdiv_eq_ediv_of_nonneg (Int.mul_nonneg (by omega) (by omega)), Int.le_ediv_iff_mul_le (by omega), Int.le_ediv_iff_mul_le (by omega), Int.mul_sub]
    have hpt : t ≤ p * t := by
      have := Int.mul_le_mul_of_nonneg_right (a := 1) (b := p) (c := t) (by omega) (by omega)
      omega
    have hc : t * p = p * t := Int.mul_comm _ _
    rw [hc]
    omega
theorem allow_down (t p k : Int) (ht : 1 ≤ t) (hp : 1 ≤ p ∧ p ≤ 100) (hk : 0 ≤ k) : allowI t (p + k) ≤ allowI t p := by
  unfold allowI
  rw [if_neg (show ¬ 100 < p by omega), if_neg (show ¬ (p < 1 ∨ t < 1) by omega)]
  have hm : 0 ≤ min t apiMax := by unfold apiMax; omega
  have h1 : 0 ≤ min t apiMax * (100 - p) := Int.mul_nonneg hm (by omega)
  have h2 := Int.tdiv_nonneg (a := min t apiMax * (100 - p)) (b := 100) h1 (by omega)
  by_cases h : 100 < p + k
  · rw [if_pos h]; omega
  · rw [if_neg h, if_neg (by omega), Int.tdiv_eq_ediv_of_nonneg h1, Int.tdiv_eq_ediv_of_nonneg (Int.mul_nonneg hm (by omega))]
    exact Int.ediv_le_ediv (by omega) (Int.mul_le_mul_of_nonneg_left (by omega) hm)
theorem allow_up (t k p : Int) (ht : 1 ≤ t) (hp : 1 ≤ p ∧ p ≤ 100) (hk : 0 ≤ k) : allowI t p ≤ allowI (t + k) p := by
  unfold allowI
  rw [if_neg (show ¬ 100 < p by omega), if_neg (show ¬ (p < 1 ∨ t < 1) by omega), if_neg (show ¬ 100 < p by omega), if_neg (show ¬ (p < 1 ∨ t + k < 1) by omega)]
  have hm : 0 ≤ min t apiMax := by unfold apiMax; omega
  have hm2 : 0 ≤ min (t + k) apiMax := by unfold apiMax; omega
  rw [Int.tdiv_eq_ediv_of_nonneg (Int.mul_nonneg hm (by omega)), Int.tdiv_eq_ediv_of_nonneg (Int.mul_nonneg hm2 (by omega))]
  exact Int.ediv_le_ediv (by omega) (Int.mul_le_mul_of_nonneg_right (by omega) (by omega))
theorem allow_zero (t : Int) (ht : 1 ≤ t) : allowI t 100 = 0 := by
  unfold allowI
  rw [if_neg (by omega), if_neg (by omega)]
  simp
theorem allow_le (t p : Int) (ht : 1 ≤ t) (hp : 1 ≤ p ∧ p ≤ 100) : allowI t p ≤ t := by
  unfold allowI
  rw [if_neg (show ¬ 100 < p by omega), if_neg (show ¬ (p < 1 ∨ t < 1) by omega)]
  have hm : 0 ≤ min t apiMax := by unfold apiMax; omega
  rw [Int.tdiv_eq_ediv_of_nonneg (Int.mul_nonneg hm (by omega))]
  have h1 : min t apiMax * (100 - p) ≤ min t apiMax * 100 := Int.mul_le_mul_of_nonneg_left (by omega) hm
  have h2 : min t apiMax * 100 ≤ t * 100 := by omega
  exact Int.ediv_le_of_le_mul (by omega) (by omega)

end Go.Proofs.Ytiigabojncnipaa
