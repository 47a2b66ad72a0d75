
/-
  Contracts of package class and of its reference (chapter 1): names.
-/
import Derived.Test.YtpboaadjbkaidaaDoorClass
namespace Go.Proofs.YtpboaadjbkaidaaDoor
set_option maxRecDepth 100000
open Go.RowKit

theorem isname_any (s : ByteArray) (w : World) (hs : s.size ≤ maxLen) :
    Calls Tryd.prog 58 #[.string s] w fun e w' => e = .returned (.bool (nameL s.data.toList)) ∧ w = w' := by
  unfold maxLen at hs
  have hsz := Lib.size_eq s
  by_cases h1 : s.size < 1
  · have hn := nameL_short s.data.toList (by omega)
    have H := Lib.hid hn
    clear hn hsz
    go_enter Tryd.func58, Tryd.ntmps58
    go_wp2
    go_ret
    exact ⟨ret_bool H.out.symm, rfl⟩
  by_cases h2 : 24 < s.size
  · have hn := nameL_long s.data.toList (by omega)
    have H := Lib.hid hn
    clear hn hsz
    go_enter Tryd.func58, Tryd.ntmps58
    go_wp2
    go_ret
    exact ⟨ret_bool H.out.symm, rfl⟩
  have h0 : 0 < s.size := by omega
  have hg : s.data.toList[0] = s[0] := rfl
  by_cases h3 : headB s[0] = true
  · have hn := nameL_tail s.data.toList (by omega) (by omega) (by rw [hg]; exact h3)
    have H := Lib.hid hn
    have h3' : 97 ≤ s[0].toNat ∧ s[0].toNat ≤ 122 := by simpa [headB] using h3
    obtain ⟨h4, h5⟩ := h3'
    clear hn h3 hg
    have HZ := Lib.hid hsz
    clear hsz
    go_enter Tryd.func58, Tryd.ntmps58
    go_wp2
    go_loop [3] (fun i => ∃ k : Nat, 1 ≤ k ∧ k ≤ s.size ∧ i = .int .i64 k ∧ Hid (nameL s.data.toList = (s.data.toList.drop k).all restB)) (fun i => s.size - (intOf i).toNat)
    case atStart => exact ⟨1, by omega, by omega, rfl, H.out⟩
    case round =>
      obtain ⟨k, hk1, hk, rfl, HR⟩ := hrel
      by_cases hlt : k < s.size
      · have hl : k < s.data.toList.length := by rw [← Lib.size_eq]; exact hlt
        have hst := HR.out.trans (all_drop_step _ _ hl)
        have hgk : s.data.toList[k] = s[k] := rfl
        rw [hgk] at hst
        have HS := Lib.hid hst
        clear hst hgk HR H
        have h255 : s[k].toNat < 256 := s[k].toNat_lt
        go_wp2
        all_goals (try simp only [beq_iff_eq, beq_eq_false_iff_ne, bne_iff_ne, bne_eq_false_iff_eq, ne_eq, Bool.not_eq_true', Bool.not_eq_false', Bool.not_eq_eq_eq_not, Bool.not_true, Bool.not_false, decide_eq_true_eq, decide_eq_false_iff_not, Int.not_lt, Int.not_le] at *)
        all_goals first
          | (refine ⟨⟨k + 1, by omega, by omega, by go_num, ?_⟩, by simp [intOf]; try omega⟩
             have hr : restB s[k] = true := by simp only [restB, decide_eq_true_eq]; omega
             have := HS.out
             rw [hr, Bool.true_and] at this
             exact this)
          | (have hr : restB s[k] = false := by simp only [restB, decide_eq_false_iff_not]; omega
             have := HS.out
             rw [hr, Bool.false_and] at this
             go_ret
             exact ⟨ret_bool this.symm, rfl⟩)
      · have hl : ¬ k < s.data.toList.length := by rw [← Lib.size_eq]; exact hlt
        have hst := HR.out.trans (all_drop_end _ _ hl)
        have HS := Lib.hid hst
        clear hst HR H hl
        go_wp2
        go_ret
        exact ⟨ret_bool HS.out.symm, rfl⟩
  · have h3f : headB s[0] = false := by simpa using h3
    have hn := nameL_head s.data.toList (by omega) (by rw [hg]; exact h3f)
    have H := Lib.hid hn
    have h3' : ¬ (97 ≤ s[0].toNat ∧ s[0].toNat ≤ 122) := by simpa [headB] using h3
    clear hn h3 h3f hg hsz
    have h255 : s[0].toNat < 256 := s[0].toNat_lt
    by_cases h4 : s[0].toNat < 97
    · go_enter Tryd.func58, Tryd.ntmps58
      go_wp2
      go_ret
      exact ⟨ret_bool H.out.symm, rfl⟩
    · have h5 : 122 < s[0].toNat := by omega
      clear h3'
      go_enter Tryd.func58, Tryd.ntmps58
      go_wp2
      go_ret
      exact ⟨ret_bool H.out.symm, rfl⟩

end Go.Proofs.YtpboaadjbkaidaaDoor
