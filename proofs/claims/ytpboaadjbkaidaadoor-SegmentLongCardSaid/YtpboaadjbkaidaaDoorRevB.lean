
/-
  Reverse, the program's and the reference's: the whole functions.
-/
import Derived.Test.YtpboaadjbkaidaaDoorRevA
namespace Go.Proofs.YtpboaadjbkaidaaDoor
set_option maxRecDepth 100000
open Go.RowKit

set_option maxRecDepth 100000 in
set_option maxHeartbeats 4000000 in
theorem turn_nil (a : Option Addr) (c : Nat) (w : World) :
    Calls Tryd.prog 84 #[.slice a 0 c] w fun e w' => e = .returned (.tuple #[]) ∧ w = w' := by
  go_enter Tryd.func84, Tryd.ntmps84
  go_wp2_with fail
  go_loopg [2, 3] 0 (fun _ s2 s3 wr => s2 = .int .i64 0 ∧ s3 = .int .i64 (-1) ∧ w = wr)
  case atStart => exact ⟨rfl, rfl, rfl⟩
  case round =>
    obtain ⟨rfl, rfl, rfl⟩ := hrel
    go_wp2_with fail
    go_end0
    exact ⟨rfl, rfl⟩

set_option maxRecDepth 100000 in
set_option maxHeartbeats 4000000 in
theorem revp_any (l : List At) (v : Value) (w : World) (hp : RdE atC 34 w v l) (hl : l.length ≤ 140737488355) :
    Calls Tryd.prog 51 #[v] w (RetRd w w.heap.size l.reverse) := by
  obtain ⟨R, HRR⟩ : ∃ R, Hid (R = RetRd w w.heap.size l.reverse) := ⟨_, rfl⟩
  rw [← HRR.out]
  have HC := Lib.hid (clone_any l v w hp hl)
  clear hp
  go_enter Tryd.func51, Tryd.ntmps51
  go_upto_region 2 with (go_at_call 83; refine HC.out.mono ?_; rintro e w1 ⟨v1, rfl, hown, hb1⟩)
  have HB1 := Lib.hid hb1
  rcases hown.2 with ⟨rfl, h0⟩ | ⟨g, cap, cur, rfl, hbg, hh, hc, hcm, hs, htk⟩
  · obtain rfl : l = [] := List.eq_nil_of_length_eq_zero h0
    clear hown hb1 HC
    go_wp2_with (go_at_call 84; refine (turn_nil _ _ _).mono ?_; rintro e w' ⟨rfl, rfl⟩)
    rw [HRR.out]
    exact ⟨_, rfl, RdE.nil, HB1.out⟩
  · have hra := RowA.of hown
    have HT := Lib.hid (turn_any g g cap l.length (atAt l) w1 hra.1 (Nat.le_refl _) hl)
    have hgg := hra.2
    clear hra hown hh htk hs hcm hb1 HC
    go_wp2_with (go_at_call 84; refine HT.out.mono ?_; rintro e w2 ⟨rfl, hr2, hb2⟩)
    rw [HRR.out]
    refine ⟨_, rfl, hr2.rd l.reverse (by simp) hc (fun t x h => rev_at l t x h), HB1.out.trans (hb2.mono hgg)⟩

end Go.Proofs.YtpboaadjbkaidaaDoor
