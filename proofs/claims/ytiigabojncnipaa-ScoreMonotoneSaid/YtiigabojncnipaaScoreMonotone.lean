
/-
  The walk of the law ScoreMonotone.
-/
import Derived.Test.YtiigabojncnipaaLaw13B
import Derived.Test.YtiigabojncnipaaMakeA
import Derived.Test.YtiigabojncnipaaOpenTok
namespace Go.Proofs.Ytiigabojncnipaa
open Go.RowKit

set_option maxRecDepth 100000 in
set_option maxHeartbeats 8000000 in
theorem walk_ScoreMonotone (tt pp mm : Int) (w : World) (h0' : (Lit.int .i64 tt).wf = true) (h1' : (Lit.int .i64 pp).wf = true) (h2' : (Lit.int .i64 mm).wf = true) :
    Calls Try.prog 7 #[.int .i64 tt, .int .i64 pp, .int .i64 mm] w fun e w' => e = .returned (.bool true) ∧ Below w.heap.size w w' := by
  have h0 : IntIn tt := wf_i64 h0'
  have h1 : IntIn pp := wf_i64 h1'
  have h2 : IntIn mm := wf_i64 h2'
  clear h0' h1' h2'
  have P1 := Lib.hid (fun w => place_any tt 5000 w h0 (by decide) (by decide))
  have P2 := Lib.hid (fun w => place_any pp 100 w h1 (by decide) (by decide))
  have P3 := Lib.hid (fun w => place_any mm 100 w h2 (by decide) (by decide))
  have b1 := Int.emod_nonneg tt (show (5000 : Int) ≠ 0 by decide)
  have b2 := Int.emod_lt_of_pos tt (show (0 : Int) < 5000 by decide)
  have b3 := Int.emod_nonneg pp (show (100 : Int) ≠ 0 by decide)
  have b4 := Int.emod_lt_of_pos pp (show (0 : Int) < 100 by decide)
  have b5 := Int.emod_nonneg mm (show (100 : Int) ≠ 0 by decide)
  have b6 := Int.emod_lt_of_pos mm (show (0 : Int) < 100 by decide)
  generalize tt % 5000 = t at P1 b1 b2
  generalize pp % 100 = p at P2 b3 b4
  generalize mm % 100 = k at P3 b5 b6
  have C1 := Lib.hid (fun w => allowed_any (1 + t) (1 + p + k) w ⟨by omega, by omega⟩ ⟨by omega, by omega⟩)
  have C2 := Lib.hid (fun w => allowed_any (1 + t) (1 + p) w ⟨by omega, by omega⟩ ⟨by omega, by omega⟩)
  have C3 := Lib.hid (fun w => allowed_any (1 + t + k) (1 + p) w ⟨by omega, by omega⟩ ⟨by omega, by omega⟩)
  have c4 := fun w => allowed_any (1 + t) 100 w ⟨by omega, by omega⟩ ⟨by omega, by omega⟩
  rw [allow_zero (1 + t) (by omega)] at c4
  have C4 := Lib.hid c4
  have f1 := allow_down (1 + t) (1 + p) k (by omega) ⟨by omega, by omega⟩ (by omega)
  have f2 := allow_up (1 + t) k (1 + p) (by omega) ⟨by omega, by omega⟩ (by omega)
  have f3 := allow_le (1 + t) (1 + p) (by omega) ⟨by omega, by omega⟩
  generalize allowI (1 + t) (1 + p + k) = g1 at C1 f1
  generalize allowI (1 + t) (1 + p) = g2 at C2 f1 f2 f3
  generalize allowI (1 + t + k) (1 + p) = g3 at C3 f2
  have e1 : IntKind.i64.wrap (1 + t) = 1 + t := by rw [IntKind.wrap_i64]; omega
  have e2 : IntKind.i64.wrap (1 + p) = 1 + p := by rw [IntKind.wrap_i64]; omega
  have e3 : IntKind.i64.wrap (1 + p + k) = 1 + p + k := by rw [IntKind.wrap_i64]; omega
  have e4 : IntKind.i64.wrap (1 + t + k) = 1 + t + k := by rw [IntKind.wrap_i64]; omega
  clear h0 h1 h2 c4
  go_enter Try.func7, Try.ntmps7
  go_wp2_with fail
  refine (P1.out _).mono ?_
  rintro e w' ⟨rfl, rfl⟩
  go_wp2_with fail
  refine (P2.out _).mono ?_
  rintro e w' ⟨rfl, rfl⟩
  go_wp2_with fail
  refine (P3.out _).mono ?_
  rintro e w' ⟨rfl, rfl⟩
  go_wp2_with fail
  refine (C1.out _).mono ?_
  rintro e w' ⟨rfl, rfl⟩
  go_wp2_with fail
  refine (C2.out _).mono ?_
  rintro e w' ⟨rfl, rfl⟩
  go_wp2_with fail
  refine (C3.out _).mono ?_
  rintro e w' ⟨rfl, rfl⟩
  go_wp2_with fail
  refine (C2.out _).mono ?_
  rintro e w' ⟨rfl, rfl⟩
  go_wp2_with fail
  refine (C4.out _).mono ?_
  rintro e w' ⟨rfl, rfl⟩
  go_wp2_with fail
  refine (C2.out _).mono ?_
  rintro e w' ⟨rfl, rfl⟩
  go_wp2_with (go_at_call 10; refine (known13_any _).mono ?_; rintro e w' ⟨rfl, hb'⟩)
  go_ret
  exact ⟨rfl, hb'⟩

end Go.Proofs.Ytiigabojncnipaa
