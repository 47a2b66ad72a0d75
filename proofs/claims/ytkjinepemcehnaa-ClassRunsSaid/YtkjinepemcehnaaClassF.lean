/-
  Contracts of package class and of its reference (chapter 1): Runs of the reference.
-/
import Derived.Test.YtkjinepemcehnaaClassE
namespace Go.Proofs.Ytkjinepemcehnaa
open Go.RowKit

section
variable {w : World} {B g n cap : Nat} {l : List (Nat × Nat)} {x : Nat × Nat}
theorem Ranges.lastCell (h : w.ownsRow B 34 2 (.slice (some ⟨g, 0, none⟩) (l.length + 1) cap) (l.length + 1) (l.flatMap rangeC ++ rangeC x)) :
    w.cell? ⟨g, l.length * 2 + 1, none⟩ = some (.int .i64 (x.2 : Int)) := by
  rw [h.cellAt _ (by omega), List.getElem?_append_right (by rw [flat_length rangeC 2 rangeC_two]; omega), flat_length rangeC 2 rangeC_two]
  rw [show l.length * 2 + 1 - l.length * 2 = 1 from by omega]
  rfl
theorem Ranges.lastSet (h : w.ownsRow B 34 2 (.slice (some ⟨g, 0, none⟩) (l.length + 1) cap) (l.length + 1) (l.flatMap rangeC ++ rangeC x)) (t : Nat) :
    Ranges (w.setCell ⟨g, l.length * 2 + 1, none⟩ (.int .i64 ((t : Int) + 1))) B (.slice (some ⟨g, 0, none⟩) (l.length + 1) cap) (l ++ [(x.1, t + 1)]) := by
  refine Ranges.snoc ?_
  have h2 := (h.stored (l.length * 2 + 1) (.int .i64 ((t : Int) + 1))).1
  rw [List.set_append_right _ _ (by rw [flat_length rangeC 2 rangeC_two]; omega), flat_length rangeC 2 rangeC_two, show l.length * 2 + 1 - l.length * 2 = 1 from by omega] at h2
  exact h2
theorem Ranges.unsnoc {v : Value} (h : Ranges w B v (l ++ [x])) : ∃ g cap, v = .slice (some ⟨g, 0, none⟩) (l.length + 1) cap ∧ B ≤ g ∧
    w.ownsRow B 34 2 (.slice (some ⟨g, 0, none⟩) (l.length + 1) cap) (l.length + 1) (l.flatMap rangeC ++ rangeC x) := by
  unfold Ranges at h
  rw [List.length_append, List.flatMap_append] at h
  obtain ⟨g, c, hv, hb⟩ := own_some h (by simp)
  subst hv
  exact ⟨g, c, rfl, hb, by simpa using h⟩
end

set_option maxHeartbeats 400000 in
theorem rruns_any (s : ByteArray) (w : World) (hs : s.size ≤ 4000000000000) :
    Calls Try.prog 19 #[.string s] w fun e w' => ∃ v, e = .returned v ∧ Ranges w' w.heap.size v (runsK s.data.toList s.size) ∧ Below w.heap.size w w' := by
  go_enter Try.func19, Try.ntmps19
  go_wp2
  go_loopw [3, 4] (fun v i wr => ∃ k : Nat, k ≤ s.size ∧ i = .int .i64 k ∧ Hid (Ranges wr w.heap.size v (runsK s.data.toList k)) ∧ Below w.heap.size w wr)
    (fun _ i _ => s.size - (intOf i).toNat)
  case atStart => exact ⟨0, by omega, rfl, Ranges.nil _ _, Below.refl _ _⟩
  case round =>
    obtain ⟨k, hk, rfl, HO, hb⟩ := hrel
    have hsize := hb.size
    have hlen := runsK_length s.data.toList k
    by_cases hlt : k < s.size
    · have h1 : s[k].toNat < 256 := s[k].toNat_lt
      by_cases hnew : k = 0 ∨ clAt s.data.toList k ≠ clAt s.data.toList (k - 1)
      · have HN := Lib.hid (runsK_new _ _ hnew)
        obtain ⟨A, c, hv⟩ := own_shape HO.out
        subst hv
        rcases Nat.eq_zero_or_pos k with hk0 | hk0
        · subst hk0
          clear hnew
          go_wp2_with fail
          go_quiet (fail)
          go_wp2_with (at_builtin; go_must (refine wpList_app1 rfl (.tmp 25) (.tmp 29) 31 34 rfl Try.underlying31 _ 2 16 range_info rfl (by decide) w.heap.size _ _ _ rfl (by exact World.ownsRow.alloc HO.out _) ⟨wr.heap.size, 0, none⟩ 1 (rangeC (0, 0)) rfl rfl (by exact cells_new _ _ _) (range_one _) (by omega) (by decide) (by simp; omega) ?_); intro g cap w1 hown1 hg1 hbel1 hgr1; have hc1 := Ranges.lastCell hown1; have hf1 := hown1.frozenAt ((runsK s.data.toList 0).length * 2 + 1))
          refine ⟨⟨0 + 1, by omega, by go_num, ?_, ?_⟩, by simp [intOf]; try omega⟩
          · rw [HN.out]
            exact Ranges.lastSet (x := (0, 0)) hown1 0
          · exact (hbel1 _ _ (Nat.le_refl _) (by exact (below_drewN hb nq).alloc (by exact hsize) _)).setCell hg1 _
        · have hc := hnew.resolve_left (by omega)
          have hkl : k - 1 < s.size := by omega
          have h2 : s[k - 1].toNat < 256 := s[k - 1].toNat_lt
          have hne : ((k : Int) == 0) = false := by simp; omega
          have hw : IntKind.i64.wrap ((k : Int) - 1) = ((k - 1 : Nat) : Int) := by rw [IntKind.wrap_i64]; omega
          have ht : (clsN (s[k].toNat : Int) != clsN (s[k - 1].toNat : Int)) = true := by
            rw [← clAt_get s k hlt, ← clAt_get s (k - 1) hkl]
            simpa using hc
          clear hnew hc
          go_wp2_with fail
          go_quiet ((go_at_call 13; exact quiet_left (cls_any _ _ (by omega) (by omega))))
          clear ht hne hw
          go_wp2_with (at_builtin; go_must (refine wpList_app1 rfl (.tmp 25) (.tmp 29) 31 34 rfl Try.underlying31 _ 2 16 range_info rfl (by decide) w.heap.size _ _ _ rfl (by exact World.ownsRow.alloc HO.out _) ⟨wr.heap.size, 0, none⟩ 1 (rangeC (k, k)) rfl rfl (by exact cells_new _ _ _) (range_one _) (by omega) (by decide) (by simp; omega) ?_); intro g cap w1 hown1 hg1 hbel1 hgr1; have hc1 := Ranges.lastCell hown1; have hf1 := hown1.frozenAt ((runsK s.data.toList k).length * 2 + 1))
          refine ⟨⟨k + 1, by omega, by go_num, ?_, ?_⟩, by simp [intOf]; try omega⟩
          · rw [HN.out]
            exact Ranges.lastSet (x := (k, k)) hown1 k
          · exact (hbel1 _ _ (Nat.le_refl _) (by exact (below_drewN hb nq).alloc (by exact hsize) _)).setCell hg1 _
      · have hk0 : 0 < k := by
          rcases Nat.eq_zero_or_pos k with h | h
          · exact absurd (.inl h) hnew
          · exact h
        obtain ⟨out, f, he, hf, _, hol⟩ := runsK_open s.data.toList k hk0
        have HN := Lib.hid (runsK_old _ _ hnew)
        have HE := Lib.hid he
        have HOe := HO.out
        rw [he] at HOe
        obtain ⟨g, cap, hv, hg, hown⟩ := Ranges.unsnoc HOe
        subst hv
        clear he HOe HO hlen
        have hc : clAt s.data.toList k = clAt s.data.toList (k - 1) := Decidable.byContradiction fun h => hnew (.inr h)
        have hkl : k - 1 < s.size := by omega
        have h2 : s[k - 1].toNat < 256 := s[k - 1].toNat_lt
        have hne : ((k : Int) == 0) = false := by simp; omega
        have hw : IntKind.i64.wrap ((k : Int) - 1) = ((k - 1 : Nat) : Int) := by rw [IntKind.wrap_i64]; omega
        have ht : (clsN (s[k].toNat : Int) != clsN (s[k - 1].toNat : Int)) = false := by
          rw [← clAt_get s k hlt, ← clAt_get s (k - 1) hkl]
          simpa using hc
        clear hnew hc
        have hc1 := Ranges.lastCell hown
        have hf1 := hown.frozenAt (out.length * 2 + 1)
        go_wp2_with fail
        go_quiet ((go_at_call 13; exact quiet_left (cls_any _ _ (by omega) (by omega))))
        clear ht hne hw
        go_wp2_with fail
        refine ⟨⟨k + 1, by omega, by go_num, ?_, ?_⟩, by simp [intOf]; try omega⟩
        · rw [HN.out, HE.out, lastTo_snoc]
          exact Ranges.lastSet (x := (f, k)) hown k
        · exact (below_drewN hb nq).setCell hg _
    · obtain rfl : k = s.size := by omega
      obtain ⟨A, c, hv⟩ := own_shape HO.out
      subst hv
      go_wp2
      go_ret
      exact ⟨_, rfl, HO.out, hb⟩

end Go.Proofs.Ytkjinepemcehnaa
