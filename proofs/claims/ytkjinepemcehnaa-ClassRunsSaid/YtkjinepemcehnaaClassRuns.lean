/-
  The walk of the law ClassRuns.
-/
import Derived.Test.YtkjinepemcehnaaClassG
import Derived.Test.YtkjinepemcehnaaClassF
namespace Go.Proofs.Ytkjinepemcehnaa
open Go.RowKit

theorem own_below {w w' : World} {B : Nat} {e : TypeId} {size : Nat} {v : Value} {n : Nat} {xs : List Value} {B' : Nat} (h : w.ownsRow B e size v n xs) (hb : Below B' w w') (hB : w.heap.size ≤ B') : w'.ownsRow B e size v n xs := by
  refine ⟨h.1, ?_⟩
  rcases h.2 with h0 | ⟨g, cap, cur, hv, hbg, hg, rest⟩
  · exact .inl h0
  · refine .inr ⟨g, cap, cur, hv, hbg, ?_, rest⟩
    rw [hb.block g (Nat.lt_of_lt_of_le (Array.getElem?_eq_some_iff.1 hg).1 hB)]
    exact hg

theorem Ranges.cells {w : World} {B g c n : Nat} {l : List (Nat × Nat)} (h : Ranges w B (.slice (some ⟨g, 0, none⟩) n c) l) (hn : n = l.length) (k : Nat) (hk : k < l.length) :
    w.cell? ⟨g, k * 2, none⟩ = some (.int .i64 (l[k].1 : Int)) ∧ w.cell? ⟨g, k * 2 + 1, none⟩ = some (.int .i64 (l[k].2 : Int)) := by
  subst hn
  have hx : l[k]? = some l[k] := List.getElem?_eq_getElem hk
  constructor
  · rw [h.cellAt (k * 2) (by omega)]
    have := flat_get rangeC 2 rangeC_two l k 0 l[k] hx (by omega)
    rw [Nat.add_zero] at this
    rw [this]
    rfl
  · rw [h.cellAt (k * 2 + 1) (by omega), flat_get rangeC 2 rangeC_two l k 1 l[k] hx (by omega)]
    rfl

theorem walk_ClassRuns (s : ByteArray) (w : World) (hs : s.size ≤ maxLen) :
    Calls Try.prog 7 #[.string s] w fun e w' => e = .returned (.bool true) ∧ Below w.heap.size w w' := by
  unfold maxLen at hs
  by_cases h1 : 300 < s.size
  · go_enter Try.func7, Try.ntmps7
    go_wp2_with (go_at_call 14; refine (known_any _).mono ?_; rintro e w' ⟨rfl, hb'⟩)
    go_ret
    exact ⟨rfl, hb'⟩
  have c1 := fun w => runs_any s w (by omega)
  have c2 := fun w => rruns_any s w (by omega)
  have hlen := runsK_length s.data.toList s.size
  generalize runsK s.data.toList s.size = L at c1 c2 hlen
  have C1 := Lib.hid c1
  have C2 := Lib.hid c2
  clear c1 c2
  go_enter Try.func7, Try.ntmps7
  go_wp2_with fail
  refine (C1.out _).mono ?_
  rintro e w1 ⟨v, rfl, hv, b1⟩
  go_wp2_with fail
  refine (C2.out _).mono ?_
  rintro e w2 ⟨v', rfl, hv', b2⟩
  have z1 := b1.size
  have z2 := b2.size
  have hbw : Below w.heap.size w w2 := b1.trans (b2.mono z1)
  have hv2 : Ranges w2 w.heap.size v L := own_below hv b2 (Nat.le_refl _)
  by_cases hL : 0 < L.length
  · obtain ⟨g, c, hvs, _⟩ := own_some hv2 hL
    obtain ⟨g', c', hvs', _⟩ := own_some hv' hL
    subst hvs hvs'
    have HA := Lib.hid hv2
    have HB := Lib.hid hv'
    clear hv hv' hv2 C1 C2 b1 b2
    go_wp2_with fail
    go_loopw [21] (fun i wr => ∃ k nq : Nat, k ≤ L.length ∧ i = .int .i64 k ∧ wr = w2.drewN nq) (fun i _ => L.length - (intOf i).toNat)
    case atStart => exact ⟨0, 0, by omega, rfl, rfl⟩
    case round =>
      obtain ⟨k, nq, hk, rfl, rfl⟩ := hrel
      by_cases hkl : k < L.length
      · obtain ⟨q1, q2⟩ := HA.out.cells rfl k hkl
        obtain ⟨q3, q4⟩ := HB.out.cells rfl k hkl
        go_wp2_with fail
        go_quiet (fail)
        go_wp2_with fail
        exact ⟨⟨k + 1, _, by omega, by go_num, rfl⟩, by simp [intOf]; try omega⟩
      · obtain rfl : k = L.length := by omega
        go_wp2_with (go_at_call 14; refine (known_any _).mono ?_; rintro e w' ⟨rfl, hb'⟩)
        go_ret
        exact ⟨rfl, (below_drewN hbw nq).trans (hb'.mono (by exact Nat.le_trans z1 z2))⟩
  · have hL0 : L.length = 0 := by omega
    have hLn : L = [] := List.eq_nil_of_length_eq_zero hL0
    subst hLn
    obtain ⟨A, c, hvs⟩ := own_shape hv2
    obtain ⟨A', c', hvs'⟩ := own_shape hv'
    subst hvs hvs'
    clear hv hv' hv2 C1 C2 b1 b2 hL0 hL
    go_wp2_with fail
    go_loop [21] (fun i => i = .int .i64 0) (fun i => (intOf i).toNat)
    case atStart => rfl
    case round =>
      subst hrel
      go_wp2_with (go_at_call 14; refine (known_any _).mono ?_; rintro e w' ⟨rfl, hb'⟩)
      go_ret
      exact ⟨rfl, hbw.trans (hb'.mono (by omega))⟩

theorem clsN_pos (n : Int) : (clsN n == 0) = false := by
  unfold clsN
  repeat' split
  all_goals rfl

set_option maxHeartbeats 1000000 in
theorem walk_ClassTiles (s : ByteArray) (w : World) (hs : s.size ≤ maxLen) :
    Calls Try.prog 8 #[.string s] w fun e w' => e = .returned (.bool true) ∧ Below w.heap.size w w' := by
  unfold maxLen at hs
  by_cases h1 : 300 < s.size
  · go_enter Try.func8, Try.ntmps8
    go_wp2_with (go_at_call 14; refine (known_any _).mono ?_; rintro e w' ⟨rfl, hb'⟩)
    go_ret
    exact ⟨rfl, hb'⟩
  have c1 := fun w => runs_any s w (by omega)
  have hlen := runsK_length s.data.toList s.size
  have htl := runsK_tiles s.data.toList s.size
  have hlast : runsK s.data.toList s.size = [] → s.size = 0 := fun h => by
    rcases Nat.eq_zero_or_pos s.size with h0 | h0
    · exact h0
    · obtain ⟨out, f, he, _⟩ := runsK_open s.data.toList s.size h0
      rw [he] at h
      simp at h
  generalize runsK s.data.toList s.size = L at c1 hlen htl hlast
  have C1 := Lib.hid c1
  have HT := Lib.hid htl
  have HL := Lib.hid hlast
  clear c1 htl hlast
  go_enter Try.func8, Try.ntmps8
  go_wp2_with fail
  refine (C1.out _).mono ?_
  rintro e w1 ⟨v, rfl, hv, b1⟩
  have z1 := b1.size
  obtain ⟨A, c, hvs⟩ := own_shape hv
  subst hvs
  have HV := Lib.hid hv
  clear hv C1
  go_wp2_with fail
  go_loopw [3, 4, 15] (fun at_ la i wr => ∃ (j a : Nat) (b : Int), j ≤ L.length ∧ i = .int .i64 j ∧ at_ = .int .i64 a ∧ la = .int .i64 b ∧ Below w1.heap.size w1 wr ∧
      Hid ((j = 0 → a = 0 ∧ b = 0) ∧ (j ≠ 0 → a = (L.getD (j - 1) (0, 0)).2 ∧ b = clAt s.data.toList (L.getD (j - 1) (0, 0)).1))) (fun _ _ i _ => L.length - (intOf i).toNat)
  case atStart => exact ⟨0, 0, 0, by omega, rfl, rfl, rfl, Below.refl _ _, fun _ => ⟨rfl, rfl⟩, fun h => absurd rfl h⟩
  case round =>
    obtain ⟨j, a, b, hj, rfl, rfl, rfl, hb, HR⟩ := hrel
    have hsize := hb.size
    by_cases hjl : j < L.length
    · obtain ⟨g, cc, hvs, hg⟩ := own_some HV.out (by omega)
      injection hvs with hA _ hc
      subst hA hc
      have hgl : g < w1.heap.size := by
        rcases HV.out.2 with ⟨h, _⟩ | ⟨g', _, _, h, _, hh, _⟩
        · simp at h
        · simp at h
          rw [h.1]
          exact (Array.getElem?_eq_some_iff.1 hh).1
      obtain ⟨q1, q2⟩ := HV.out.cells rfl j hjl
      rw [← hb.cell (p := ⟨g, j * 2, none⟩) hgl] at q1
      rw [← hb.cell (p := ⟨g, j * 2 + 1, none⟩) hgl] at q2
      obtain ⟨f1, f2, f3, f4, f5, f6⟩ := HT.out j L[j] (List.getElem?_eq_getElem hjl)
      have haf : a = L[j].1 := by
        rw [f1]
        by_cases h0 : j = 0
        · rw [if_pos h0]; exact (HR.out.1 h0).1
        · rw [if_neg h0]; exact (HR.out.2 h0).1
      have hfl : L[j].1 < s.size := by omega
      have hbl : (clsN (s[L[j].1].toNat : Int) == b) = false := by
        by_cases h0 : j = 0
        · rw [(HR.out.1 h0).2]; exact clsN_pos _
        · rw [(HR.out.2 h0).2, ← clAt_get s _ hfl]
          simpa using f4 h0
      have hnext : L.getD j (0, 0) = L[j] := by simp [List.getD, List.getElem?_eq_getElem hjl]
      have HN := Lib.hid hnext
      have HC := Lib.hid f5
      clear f1 f4 f5 f6 hnext HR
      subst haf
      generalize L[j] = r at q1 q2 f2 f3 hfl hbl HN HC
      obtain ⟨f, t⟩ := r
      simp only at q1 q2 f2 f3 hfl hbl
      have l1 : s[f].toNat < 256 := s[f].toNat_lt
      go_wp2_with (go_at_call 12; refine (of_any _ _ (by omega) (by omega)).mono ?_; rintro e w' ⟨rfl, rfl⟩)
      clear hbl q1 q2
      go_loop [7] (fun i => ∃ k : Nat, f ≤ k ∧ k ≤ t ∧ i = .int .i64 k) (fun i => t - (intOf i).toNat)
      case atStart => exact ⟨f, by omega, by omega, rfl⟩
      case round =>
        obtain ⟨k, hk1, hk2, rfl⟩ := hrel
        by_cases hkt : k < t
        · have hks : k < s.size := by omega
          have l2 : s[k].toNat < 256 := s[k].toNat_lt
          have hcc : (clsN (s[k].toNat : Int) != clsN (s[f].toNat : Int)) = false := by
            rw [← clAt_get s k hks, ← clAt_get s f hfl]
            simpa using HC.out k hk1 hkt
          go_wp2_with (go_at_call 12; refine (of_any _ _ (by omega) (by omega)).mono ?_; rintro e w' ⟨rfl, rfl⟩)
          exact ⟨⟨k + 1, by omega, by omega, by go_num⟩, by simp [intOf]; try omega⟩
        · obtain rfl : k = t := by omega
          go_wp2_with fail
          refine ⟨⟨j + 1, k, _, by omega, by go_num, rfl, rfl, hb.alloc hsize _, fun h => by omega, fun _ => ?_⟩, by simp [intOf]; try omega⟩
          rw [Nat.add_sub_cancel, HN.out]
          exact ⟨rfl, (clAt_get s f hfl).symm⟩
    · obtain rfl : j = L.length := by omega
      have has : a = s.size := by
        by_cases h0 : L.length = 0
        · rw [(HR.out.1 h0).1, HL.out (List.eq_nil_of_length_eq_zero h0)]
        · have hx : L.length - 1 < L.length := by omega
          obtain ⟨_, _, _, _, _, f6⟩ := HT.out (L.length - 1) L[L.length - 1] (List.getElem?_eq_getElem hx)
          rw [(HR.out.2 h0).1]
          have := f6 (by omega)
          rw [← this]
          simp [List.getD, List.getElem?_eq_getElem hx]
      subst has
      go_wp2_with (go_at_call 14; refine (known_any _).mono ?_; rintro e w' ⟨rfl, hb'⟩)
      go_ret
      exact ⟨ret_bool (by simp), (b1.trans (hb.mono z1)).trans (hb'.mono (by omega))⟩

end Go.Proofs.Ytkjinepemcehnaa
