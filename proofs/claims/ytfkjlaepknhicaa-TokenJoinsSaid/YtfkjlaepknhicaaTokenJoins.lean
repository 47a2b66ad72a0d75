
/-
  The walk of the law TokenJoins.
-/
import Derived.Test.YtfkjlaepknhicaaLaw11B
import Derived.Test.YtfkjlaepknhicaaJoin
namespace Go.Proofs.Ytfkjlaepknhicaa
open Go.RowKit

set_option maxRecDepth 100000 in
set_option maxHeartbeats 8000000 in
theorem walk_TokenJoins (A : Option Addr) (n c : Nat) (l : List Tk) (w : World) (h0 : ArgTS w A n c l) :
    Calls Try.prog 8 #[.slice A n c] w fun e w' => e = .returned (.bool true) ∧ Below w.heap.size w w' := by
  obtain ⟨rfl, hll, hrl, hli⟩ := h0
  unfold maxLen at hll
  have HLI := Lib.hid hli
  have HR := Lib.hid hrl
  clear hli hrl
  by_cases hl : l.length ≤ 60
  · go_enter Try.func8, Try.ntmps8
    go_wp2_with fail
    go_loop [3, 7] (fun nv i => ∃ k : Nat, k ≤ l.length ∧ i = .int .i64 k ∧ nv = .int .i64 (bytesOf (l.take k) : Nat)) (fun _ i => l.length - (intOf i).toNat)
    case atStart => exact ⟨0, by omega, rfl, rfl⟩
    case round =>
      obtain ⟨k, hk, rfl, rfl⟩ := hrel
      have hs := sum_few l k hk HLI.out
      by_cases hlt : k < l.length
      · obtain ⟨b', o, rfl, hbl, q1, q2, q3⟩ := RdT.at_ HR.out k hlt
        have hx := (HLI.out l[k] (List.getElem_mem hlt)).2
        have HS := Lib.hid (bytesOf_step l k hlt)
        generalize l[k] = x at q1 q2 q3 hx HS
        generalize bytesOf (l.take k) = n at hs HS
        clear q1 q3
        go_wp2_with fail
        go_round
        case rel => exact ⟨k + 1, by omega, by go_num, by rw [HS.out]; go_num⟩
        case measure => simp [intOf]; omega
      · obtain rfl : k = l.length := by omega
        rw [List.take_length] at hs ⊢
        by_cases hq : 1000 < bytesOf l
        · go_wp2_with (go_at_call 11; refine (known_any _).mono ?_; rintro e w' ⟨rfl, hb'⟩)
          go_ret
          exact ⟨rfl, hb'⟩
        have hn := itemsOf_length l
        have B0 := Lib.hid (Below.refl w.heap.size w)
        have z0 : w.heap.size ≤ w.heap.size := Nat.le_refl _
        have RL_0 := Lib.hid HR.out
        go_wp2_with fail
        refine (join_any l _ _ (by exact RL_0.out) (by omega) (by omega)).mono ?_
        rintro e w1 ⟨va, rfl, hown, hb⟩
        have Ra_1 := Lib.hid (OwnE.rd tkC_three hown)
        obtain ⟨Aa, ca, hv⟩ := own_shape hown
        subst hv
        have B1 := Lib.hid (B0.out.trans (Below.mono (hb) z0))
        have z1 := B1.out.size
        have RL_1 := Lib.hid (RdE.below RL_0.out (hb) (Nat.le_refl _))
        clear B0 RL_0
        clear hown hb
        go_wp2_with fail
        refine (rjoin_any l _ _ (by exact RL_1.out) (by omega) (by omega)).mono ?_
        rintro e w2 ⟨vb, rfl, hown, hb⟩
        have Rb_2 := Lib.hid (OwnE.rd tkC_three hown)
        obtain ⟨Ab, cb, hv⟩ := own_shape hown
        subst hv
        have B2 := Lib.hid (B1.out.trans (Below.mono (hb) z1))
        have z2 := B2.out.size
        have Ra_2 := Lib.hid (RdE.below Ra_1.out (hb) (Nat.le_refl _))
        clear B1 RL_1 Ra_1
        clear hown hb
        go_wp2_with fail
        refine (same3_yes _ _ _ _ (by exact Ra_2.out) (by exact Rb_2.out) (by have := normL_length (itemsOf l); omega)).mono ?_
        rintro e w3 ⟨rfl, n3, hw⟩
        have hb : Below w2.heap.size w2 w3 := by rw [hw]; exact below_drewN (Below.refl _ _) _
        have B3 := Lib.hid (B2.out.trans (Below.mono (hb) z2))
        have z3 := B3.out.size
        clear B2 Ra_2 Rb_2
        clear hb hw
        go_wp2_with fail
        refine (known_any _).mono ?_
        rintro e w4 ⟨rfl, hb⟩
        have B4 := Lib.hid (B3.out.trans (Below.mono (hb) z3))
        have z4 := B4.out.size
        clear B3
        clear hb
        go_wp2_with fail
        go_ret
        exact ⟨rfl, B4.out⟩
  · go_enter Try.func8, Try.ntmps8
    go_wp2_with fail
    go_loop [3, 7] (fun nv i => ∃ (k : Nat) (z : Int), k ≤ l.length ∧ i = .int .i64 k ∧ nv = .int .i64 z) (fun _ i => l.length - (intOf i).toNat)
    case atStart => exact ⟨0, 0, by omega, rfl, rfl⟩
    case round =>
      obtain ⟨k, z, hk, rfl, rfl⟩ := hrel
      by_cases hlt : k < l.length
      · obtain ⟨b', o, rfl, hbl, q1, q2, q3⟩ := RdT.at_ HR.out k hlt
        generalize l[k] = x at q1 q2 q3
        clear q1 q3
        go_wp2_with fail
        go_round
        case rel => exact ⟨k + 1, _, by omega, by go_num, rfl⟩
        case measure => simp [intOf]; omega
      · obtain rfl : k = l.length := by omega
        go_wp2_with (go_at_call 11; refine (known_any _).mono ?_; rintro e w' ⟨rfl, hb'⟩)
        go_ret
        exact ⟨rfl, hb'⟩

end Go.Proofs.Ytfkjlaepknhicaa
