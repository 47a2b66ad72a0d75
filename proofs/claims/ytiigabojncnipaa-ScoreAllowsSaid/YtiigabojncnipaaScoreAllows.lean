
/-
  The walk of the law ScoreAllows.
-/
import Derived.Test.YtiigabojncnipaaLaw13B
import Derived.Test.YtiigabojncnipaaMakeA
import Derived.Test.YtiigabojncnipaaOpenTok
namespace Go.Proofs.Ytiigabojncnipaa
open Go.RowKit

set_option maxRecDepth 100000 in
set_option maxHeartbeats 8000000 in
theorem walk_ScoreAllows (tt pp : Int) (w : World) (h0' : (Lit.int .i64 tt).wf = true) (h1' : (Lit.int .i64 pp).wf = true) :
    Calls Try.prog 4 #[.int .i64 tt, .int .i64 pp] w fun e w' => e = .returned (.bool true) ∧ Below w.heap.size w w' := by
  have h0 : IntIn tt := wf_i64 h0'
  have h1 : IntIn pp := wf_i64 h1'
  clear h0' h1'
  have P1 := Lib.hid (fun w => place_any pp 104 w h1 (by decide) (by decide))
  have P2 := Lib.hid (fun w => place_any tt 200 w h0 (by decide) (by decide))
  have b1 := Int.emod_nonneg pp (show (104 : Int) ≠ 0 by decide)
  have b2 := Int.emod_lt_of_pos pp (show (0 : Int) < 104 by decide)
  have b3 := Int.emod_nonneg tt (show (200 : Int) ≠ 0 by decide)
  have b4 := Int.emod_lt_of_pos tt (show (0 : Int) < 200 by decide)
  generalize pp % 104 = p at P1 b1 b2
  generalize tt % 200 = t at P2 b3 b4
  have C1 := Lib.hid (fun w => allowed_any tt pp w h0 h1)
  have R1 := Lib.hid (fun w => rallowed_any tt pp w h0 h1)
  have C2 := Lib.hid (fun w => allowed_any tt p w h0 ⟨by omega, by omega⟩)
  have R2 := Lib.hid (fun w => rallowed_any tt p w h0 ⟨by omega, by omega⟩)
  have C3 := Lib.hid (fun w => allowed_any t p w ⟨by omega, by omega⟩ ⟨by omega, by omega⟩)
  have R3 := Lib.hid (fun w => rallowed_any t p w ⟨by omega, by omega⟩ ⟨by omega, by omega⟩)
  generalize allowI tt pp = g1 at C1 R1
  generalize allowI tt p = g2 at C2 R2
  generalize allowI t p = g3 at C3 R3
  clear h0 h1 b1 b2 b3 b4
  go_enter Try.func4, Try.ntmps4
  go_wp2_with fail
  refine (P1.out _).mono ?_
  rintro e w' ⟨rfl, rfl⟩
  go_wp2_with fail
  refine (P2.out _).mono ?_
  rintro e w' ⟨rfl, rfl⟩
  go_wp2_with fail
  refine (C1.out _).mono ?_
  rintro e w' ⟨rfl, rfl⟩
  go_wp2_with fail
  refine (R1.out _).mono ?_
  rintro e w' ⟨rfl, rfl⟩
  go_wp2_with fail
  refine (C2.out _).mono ?_
  rintro e w' ⟨rfl, rfl⟩
  go_wp2_with fail
  refine (R2.out _).mono ?_
  rintro e w' ⟨rfl, rfl⟩
  go_wp2_with fail
  refine (C3.out _).mono ?_
  rintro e w' ⟨rfl, rfl⟩
  go_wp2_with fail
  refine (R3.out _).mono ?_
  rintro e w' ⟨rfl, rfl⟩
  go_wp2_with (go_at_call 10; refine (known13_any _).mono ?_; rintro e w' ⟨rfl, hb'⟩)
  go_ret
  exact ⟨rfl, hb'⟩

end Go.Proofs.Ytiigabojncnipaa
