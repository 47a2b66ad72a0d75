/-
  Contracts of package class and of its reference (chapter 1): names in the reference, Trim.
-/
import Derived.Test.YtkjinepemcehnaaClassB
namespace Go.Proofs.Ytkjinepemcehnaa
open Go.RowKit

theorem risname_any (s : ByteArray) (w : World) (hs : s.size ≤ maxLen) :
    Calls Try.prog 17 #[.string s] w fun e w' => e = .returned (.bool (nameL s.data.toList)) ∧ w = w' := by
  unfold maxLen at hs
  have hsz := Lib.size_eq s
  by_cases h1 : s.size < 1
  · have hn := nameL_short s.data.toList (by omega)
    have H := Lib.hid hn
    clear hn hsz
    go_enter Try.func17, Try.ntmps17
    go_wp2
    go_ret
    exact ⟨ret_bool H.out.symm, rfl⟩
  by_cases h2 : 24 < s.size
  · have hn := nameL_long s.data.toList (by omega)
    have H := Lib.hid hn
    clear hn hsz
    go_enter Try.func17, Try.ntmps17
    go_wp2
    go_ret
    exact ⟨ret_bool H.out.symm, rfl⟩
  have HZ := Lib.hid hsz
  clear hsz
  go_enter Try.func17, Try.ntmps17
  go_wp2
  go_loop [3] (fun i => ∃ k : Nat, k ≤ s.size ∧ i = .int .i64 k ∧ (1 ≤ k → Hid (nameL s.data.toList = (s.data.toList.drop k).all restB))) (fun i => s.size - (intOf i).toNat)
  case atStart => exact ⟨0, by omega, rfl, fun h => by omega⟩
  case round =>
    obtain ⟨k, hk, rfl, HR⟩ := hrel
    have HR' := Lib.hid HR
    clear HR
    by_cases hlt : k < s.size
    · have hl : k < s.data.toList.length := by rw [← Lib.size_eq]; exact hlt
      have hgk : s.data.toList[k] = s[k] := rfl
      have h255 : s[k].toNat < 256 := s[k].toNat_lt
      by_cases hk0 : 1 ≤ k
      · have hst := (HR'.out hk0).out.trans (all_drop_step _ _ hl)
        rw [hgk] at hst
        have HS := Lib.hid hst
        clear hst hgk
        go_wp2
        all_goals (try simp only [beq_iff_eq, beq_eq_false_iff_ne, bne_iff_ne, bne_eq_false_iff_eq, ne_eq, Bool.not_eq_true', Bool.not_eq_false', Bool.not_eq_eq_eq_not, Bool.not_true, Bool.not_false, decide_eq_true_eq, decide_eq_false_iff_not, Int.not_lt, Int.not_le] at *)
        all_goals first
          | (refine ⟨⟨k + 1, by omega, by go_num, fun _ => ?_⟩, by simp [intOf]; try omega⟩
             have hr : restB s[k] = true := by simp only [restB, decide_eq_true_eq]; omega
             have := HS.out
             rw [hr, Bool.true_and] at this
             exact this)
          | (have hr : restB s[k] = false := by simp only [restB, decide_eq_false_iff_not]; omega
             have := HS.out
             rw [hr, Bool.false_and] at this
             go_ret
             exact ⟨ret_bool this.symm, rfl⟩)
      · obtain rfl : k = 0 := by omega
        have hn1 := fun (h : headB s[0] = true) => nameL_tail s.data.toList hl (by rw [← HZ.out]; omega) (by rw [hgk]; exact h)
        have hn2 := fun (h : headB s[0] = false) => nameL_head s.data.toList hl (by rw [hgk]; exact h)
        have H1 := Lib.hid hn1
        have H2 := Lib.hid hn2
        clear hn1 hn2 hgk
        go_wp2
        all_goals (try simp only [beq_iff_eq, beq_eq_false_iff_ne, bne_iff_ne, bne_eq_false_iff_eq, ne_eq, Bool.not_eq_true', Bool.not_eq_false', Bool.not_eq_eq_eq_not, Bool.not_true, Bool.not_false, decide_eq_true_eq, decide_eq_false_iff_not, Int.not_lt, Int.not_le] at *)
        all_goals first
          | (refine ⟨⟨0 + 1, by omega, by go_num, fun _ => ?_⟩, by simp [intOf]; try omega⟩
             have hr : headB s[0] = true := by simp only [headB, decide_eq_true_eq]; omega
             exact H1.out hr)
          | (have hr : headB s[0] = false := by simp only [headB, decide_eq_false_iff_not]; omega
             go_ret
             exact ⟨ret_bool (H2.out hr).symm, rfl⟩)
    · have hl : ¬ k < s.data.toList.length := by rw [← Lib.size_eq]; exact hlt
      have hst := (HR'.out (by omega)).out.trans (all_drop_end _ _ hl)
      have HS := Lib.hid hst
      clear hst hl
      go_wp2
      go_ret
      exact ⟨ret_bool HS.out.symm, rfl⟩

end Go.Proofs.Ytkjinepemcehnaa
