
/-
  Contracts of package bitextmake: Place.
-/
import Derived.Test.YtpboaadjbkaidaaDoorOpenTok
namespace Go.Proofs.YtpboaadjbkaidaaDoor
set_option maxRecDepth 100000
open Go.RowKit

theorem place_math (x n : Int) (hn : 1 ≤ n) (hx : x < 0) : -n < x.tmod n ∧ x.tmod n ≤ 0 ∧ (x.tmod n < 0 → x % n = x.tmod n + n) ∧ (¬ x.tmod n < 0 → x % n = x.tmod n) := by
  have h1 : x.tmod n = -((-x) % n) := by
    have h := Int.neg_tmod (-x) n
    rw [Int.neg_neg] at h
    rw [h, Int.tmod_eq_emod_of_nonneg (by omega)]
  have h2 := Int.emod_nonneg (-x) (show n ≠ 0 by omega)
  have h3 := Int.emod_lt_of_pos (-x) (show 0 < n by omega)
  have h4 : x = x.tmod n + n * x.tdiv n := (Int.tmod_add_mul_tdiv x n).symm
  have h5 : x % n = (x.tmod n) % n := by
    conv => lhs; rw [h4]
    exact Int.add_mul_emod_self_left ..
  refine ⟨by omega, by omega, fun hl => ?_, fun hl => ?_⟩
  · rw [h5, ← Int.add_emod_right, Int.emod_eq_of_lt (by omega) (by omega)]
  · rw [h5, Int.emod_eq_of_lt (by omega) (by omega)]

theorem place_any (x n : Int) (w : World) (hx : IntIn x) (hn : 1 ≤ n) (hn2 : n ≤ 1000000) :
    Calls Tryd.prog 14 #[.int .i64 x, .int .i64 n] w fun e w' => e = .returned (.int .i64 (x % n)) ∧ w = w' := by
  obtain ⟨hx1, hx2⟩ := hx
  by_cases h : x < 0
  · obtain ⟨q1, q2, q3, q4⟩ := place_math x n hn h
    by_cases hr : x.tmod n < 0
    · have e := q3 hr
      go_enter Tryd.func14, Tryd.ntmps14
      go_wp2
      go_ret
      exact ⟨ret_int (by omega), rfl⟩
    · have e := q4 hr
      go_enter Tryd.func14, Tryd.ntmps14
      go_wp2
      go_ret
      exact ⟨ret_int (by omega), rfl⟩
  · go_enter Tryd.func14, Tryd.ntmps14
    have hb := Int.emod_nonneg x (show n ≠ 0 by omega)
    have hb2 := Int.emod_lt_of_pos x (show 0 < n by omega)
    go_wp2
    go_ret
    exact ⟨rfl, rfl⟩

end Go.Proofs.YtpboaadjbkaidaaDoor
