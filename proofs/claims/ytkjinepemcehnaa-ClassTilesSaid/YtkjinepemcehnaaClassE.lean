/-
  Contracts of package class and of its reference (chapter 1): Runs.
-/
import Derived.Test.YtkjinepemcehnaaClass
namespace Go.Proofs.Ytkjinepemcehnaa
open Go.RowKit

/-- A range as cells. -/
def rangeC (r : Nat × Nat) : List Value := [.int .i64 (r.1 : Int), .int .i64 (r.2 : Int)]
theorem rangeC_two (r : Nat × Nat) : (rangeC r).length = 2 := rfl
theorem range_info : (Try.prog.info? 34).map (fun i => (i.zero, i.size, i.bytes)) = some (some (.agg #[.int .i64 0, .int .i64 0]), 2, 16) := by kernel_rfl
theorem range_one (r : Nat × Nat) : ∀ u ∈ rangeC r, u.oneCell' = true := by
  intro u hu
  simp [rangeC] at hu
  rcases hu with rfl | rfl <;> rfl

/-- A row of ranges of the call's own. -/
abbrev Ranges (w : World) (B : Nat) (v : Value) (l : List (Nat × Nat)) : Prop := w.ownsRow B 34 2 v l.length (l.flatMap rangeC)
theorem Ranges.nil (w : World) (B : Nat) : Ranges w B (.slice none 0 0) [] := World.ownsRow_nil _ _ _ _

theorem Ranges.snoc {w : World} {B : Nat} {v : Value} {l : List (Nat × Nat)} {x : Nat × Nat} (h : w.ownsRow B 34 2 v (l.length + 1) (l.flatMap rangeC ++ rangeC x)) : Ranges w B v (l ++ [x]) := by
  unfold Ranges
  rw [List.length_append, List.flatMap_append]
  simpa using h

theorem clAt_get (s : ByteArray) (k : Nat) (h : k < s.size) : clAt s.data.toList k = clsN (s[k].toNat : Int) := by
  have hl : k < s.data.toList.length := by rw [← Lib.size_eq]; exact h
  unfold clAt
  rw [List.getD, List.getElem?_eq_getElem hl]
  rfl

set_option maxHeartbeats 400000 in
theorem runs_any (s : ByteArray) (w : World) (hs : s.size ≤ 4000000000000) :
    Calls Try.prog 18 #[.string s] w fun e w' => ∃ v, e = .returned v ∧ Ranges w' w.heap.size v (runsK s.data.toList s.size) ∧ Below w.heap.size w w' := by
  go_enter Try.func18, Try.ntmps18
  go_wp2
  go_loopw [3, 4, 5] (fun v f i wr => ∃ (k from_ : Nat) (out : List (Nat × Nat)), 1 ≤ k ∧ k ≤ s.size + 1 ∧ i = .int .i64 k ∧ f = .int .i64 from_ ∧ Hid (Ranges wr w.heap.size v out) ∧ Below w.heap.size w wr ∧
      Hid ((k ≤ s.size → runsK s.data.toList k = out ++ [(from_, k)] ∧ from_ < k ∧ out.length ≤ k ∧ clAt s.data.toList from_ = clAt s.data.toList (k - 1)) ∧ (k = s.size + 1 → out = runsK s.data.toList s.size)))
    (fun _ _ i _ => s.size + 1 - (intOf i).toNat)
  case atStart =>
    refine ⟨1, 0, [], by omega, by omega, rfl, rfl, Ranges.nil _ _, Below.refl _ _, fun h => ⟨by simp [runsK], by omega, by simp, rfl⟩, fun h => ?_⟩
    rw [show s.size = 0 from by omega]
    rfl
  case round =>
    obtain ⟨k, from_, out, hk1, hk2, rfl, rfl, HO, hb, HR⟩ := hrel
    have hsize := hb.size
    by_cases hle : k ≤ s.size
    · obtain ⟨hr1, hr2, hr3, hr4⟩ := HR.out.1 hle
      have H1 := Lib.hid hr1
      have H4 := Lib.hid hr4
      clear hr1 hr4
      obtain ⟨A, c, hv⟩ := own_shape HO.out
      subst hv
      by_cases hlt : k < s.size
      · have hne : ((k : Int) == (s.size : Int)) = false := by simp; omega
        have hfl : from_ < s.size := by omega
        have h1 : s[k].toNat < 256 := s[k].toNat_lt
        have h2 : s[from_].toNat < 256 := s[from_].toNat_lt
        by_cases hc : clAt s.data.toList k ≠ clAt s.data.toList (k - 1)
        · have ht : (clsN (s[k].toNat : Int) != clsN (s[from_].toNat : Int)) = true := by
            rw [← clAt_get s k hlt, ← clAt_get s from_ hfl, H4.out]
            simpa using hc
          have HC := Lib.hid hc
          clear hc
          go_wp2_with fail
          go_quiet ((go_at_call 12; exact quiet_left (of_any _ _ (by omega) (by omega))))
          clear ht hne
          go_wp2_with (at_builtin; go_must (refine wpList_app1 rfl (.tmp 27) (.tmp 31) 31 34 rfl Try.underlying31 _ 2 16 range_info rfl (by decide) w.heap.size _ out.length (out.flatMap rangeC) rfl (by exact World.ownsRow.alloc HO.out _) ⟨wr.heap.size, 0, none⟩ 1 (rangeC (from_, k)) rfl rfl (by exact cells_new _ _ _) (range_one _) (by omega) (by decide) (by simp; omega) ?_); intro g cap w1 hown1 hg1 hbel1 hgr1)
          refine ⟨⟨k + 1, k, out ++ [(from_, k)], by omega, by omega, by go_num, rfl, Ranges.snoc hown1, hbel1 _ _ (Nat.le_refl _) (by exact (below_drewN hb nq).alloc (by exact hsize) _), fun _ => ⟨?_, by omega, by simp; omega, rfl⟩, fun h => by omega⟩, by simp [intOf]; try omega⟩
          rw [runsK_new _ _ (.inr HC.out), H1.out]
        · have ht : (clsN (s[k].toNat : Int) != clsN (s[from_].toNat : Int)) = false := by
            rw [← clAt_get s k hlt, ← clAt_get s from_ hfl, H4.out]
            simpa using hc
          have HC := Lib.hid hc
          clear hc
          go_wp2_with fail
          go_quiet ((go_at_call 12; exact quiet_left (of_any _ _ (by omega) (by omega))))
          clear ht hne
          go_wp2_with fail
          refine ⟨⟨k + 1, from_, out, by omega, by omega, by go_num, rfl, HO, below_drewN hb nq, fun _ => ⟨?_, by omega, by omega, ?_⟩, fun h => by omega⟩, by simp [intOf]; try omega⟩
          · rw [runsK_old _ _ (by rintro (h | h); omega; exact HC.out h), H1.out, lastTo_snoc]
          · rw [Nat.add_sub_cancel, H4.out]
            exact (Decidable.byContradiction fun h => HC.out fun e => h e.symm)
      · obtain rfl : k = s.size := by omega
        have hne : ((s.size : Int) == (s.size : Int)) = true := by simp
        go_wp2_with fail
        go_quiet (fail)
        clear hne
        go_wp2_with (at_builtin; go_must (refine wpList_app1 rfl (.tmp 27) (.tmp 31) 31 34 rfl Try.underlying31 _ 2 16 range_info rfl (by decide) w.heap.size _ out.length (out.flatMap rangeC) rfl (by exact World.ownsRow.alloc HO.out _) ⟨wr.heap.size, 0, none⟩ 1 (rangeC (from_, s.size)) rfl rfl (by exact cells_new _ _ _) (range_one _) (by omega) (by decide) (by simp; omega) ?_); intro g cap w1 hown1 hg1 hbel1 hgr1)
        refine ⟨⟨s.size + 1, s.size, out ++ [(from_, s.size)], by omega, by omega, by go_num, rfl, Ranges.snoc hown1, hbel1 _ _ (Nat.le_refl _) (by exact (below_drewN hb nq).alloc (by exact hsize) _), fun h => by omega, fun _ => H1.out.symm⟩, by simp [intOf]; try omega⟩
    · have hv := HR.out.2 (by omega)
      subst hv
      go_wp2
      go_ret
      exact ⟨_, rfl, HO.out, hb⟩

end Go.Proofs.Ytkjinepemcehnaa
