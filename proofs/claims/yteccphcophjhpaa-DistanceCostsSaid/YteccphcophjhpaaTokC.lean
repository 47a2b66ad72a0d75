
/-
  Contracts of package token and of its reference (chapter 11): the token at the head of a text.
-/
import Derived.Test.YteccphcophjhpaaTokA
import Derived.Test.YteccphcophjhpaaTokB
namespace Go.Proofs.Yteccphcophjhpaa
open Go.RowKit

theorem nextL_word (s : ByteArray) (h : 0 < s.size) (hc : clsN (s[0].toNat : Int) = 4) : nextL s.data.toList = (6, 1 + jn wordB 39 45 (s.data.toList.drop 1)) := by
  have := drop_byte s 0 h
  rw [List.drop_zero] at this
  rw [this, nextL, if_pos hc]
  rfl
theorem nextL_num (s : ByteArray) (h : 0 < s.size) (hc : clsN (s[0].toNat : Int) = 3) : nextL s.data.toList = (7, 1 + jn digB 46 44 (s.data.toList.drop 1)) := by
  have := drop_byte s 0 h
  rw [List.drop_zero] at this
  rw [this, nextL, if_neg (by omega), if_pos hc]
  rfl
theorem nextL_sp (s : ByteArray) (h : 0 < s.size) (hc : clsN (s[0].toNat : Int) = 2) : nextL s.data.toList = (8, 1 + ((s.data.toList.drop 1).takeWhile spB).length) := by
  have := drop_byte s 0 h
  rw [List.drop_zero] at this
  rw [this, nextL, if_neg (by omega), if_neg (by omega), if_pos hc]
  rfl
theorem nextL_sign (s : ByteArray) (h : 0 < s.size) (h4 : clsN (s[0].toNat : Int) ≠ 4) (h3 : clsN (s[0].toNat : Int) ≠ 3) (h2 : clsN (s[0].toNat : Int) ≠ 2) : nextL s.data.toList = (9, 1) := by
  have := drop_byte s 0 h
  rw [List.drop_zero] at this
  rw [this, nextL, if_neg h4, if_neg h3, if_neg h2]
theorem tw_in (s : ByteArray) (k : Nat) (h : k < s.size) (hc : spB s[k] = true) : ((s.data.toList.drop k).takeWhile spB).length = ((s.data.toList.drop (k + 1)).takeWhile spB).length + 1 := by
  rw [drop_byte s k h, List.takeWhile_cons, if_pos hc, List.length_cons]
theorem tw_out (s : ByteArray) (k : Nat) (h : k < s.size) (hc : spB s[k] = false) : ((s.data.toList.drop k).takeWhile spB).length = 0 := by
  rw [drop_byte s k h, List.takeWhile_cons, if_neg (by rw [hc]; exact Bool.false_ne_true)]
  rfl
theorem tw_end (s : ByteArray) (k : Nat) (h : s.size ≤ k) : ((s.data.toList.drop k).takeWhile spB).length = 0 := by
  rw [drop_end s k h]
  rfl

theorem blank_any (s : ByteArray) (w : World) (hs : s.size ≤ 100000) :
    Calls Try.prog 55 #[.string s] w fun e w' => e = .returned (.int .i64 ((s.data.toList.takeWhile spB).length : Int)) ∧ w = w' := by
  go_enter Try.func55, Try.ntmps55
  go_wp2
  go_loop [3] (fun i => ∃ k : Nat, k ≤ s.size ∧ i = .int .i64 k ∧ Hid ((s.data.toList.takeWhile spB).length = k + ((s.data.toList.drop k).takeWhile spB).length)) (fun i => s.size - (intOf i).toNat)
  case atStart => exact ⟨0, by omega, rfl, by show _ = _; rw [List.drop_zero]; omega⟩
  case round =>
    obtain ⟨k, hk, rfl, HR⟩ := hrel
    by_cases hlt : k < s.size
    · have g255 : s[k].toNat < 256 := s[k].toNat_lt
      by_cases hc : spB s[k] = true
      · have ht : (clsN (s[k].toNat : Int) == 2) = true := hc
        have HC := Lib.hid (tw_in s k hlt hc)
        clear hc
        go_wp2_with (go_at_call 58; refine (cls_any _ _ (by omega) (by omega)).mono ?_; rintro e w' ⟨rfl, rfl⟩)
        refine ⟨⟨k + 1, by omega, by go_num, ?_⟩, by simp [intOf]; try omega⟩
        have hj := HR.out
        rw [HC.out] at hj
        show _ = _
        omega
      · have hc' : spB s[k] = false := by simpa using hc
        have ht : (clsN (s[k].toNat : Int) == 2) = false := hc'
        have HC := Lib.hid (tw_out s k hlt hc')
        clear hc hc'
        go_wp2_with (go_at_call 58; refine (cls_any _ _ (by omega) (by omega)).mono ?_; rintro e w' ⟨rfl, rfl⟩)
        go_ret
        have hj := HR.out
        rw [HC.out] at hj
        exact ⟨ret_int (by omega), rfl⟩
    · have HC := Lib.hid (tw_end s k (by omega))
      go_wp2_with fail
      go_ret
      have hj := HR.out
      rw [HC.out] at hj
      exact ⟨ret_int (by omega), rfl⟩

end Go.Proofs.Yteccphcophjhpaa
