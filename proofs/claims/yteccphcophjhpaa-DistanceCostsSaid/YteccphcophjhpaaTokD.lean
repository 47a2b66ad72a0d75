
/-
  Contracts of the reference of package token (chapter 11): words.
-/
import Derived.Test.YteccphcophjhpaaTokA
namespace Go.Proofs.Yteccphcophjhpaa
open Go.RowKit

def wordN : List UInt8 → Nat
  | [] => 0
  | c :: r => if clsN (c.toNat : Int) = 4 then 1 + jn wordB 39 45 r else 0
theorem wordN_pos (s : ByteArray) (h : 0 < s.size) (hc : clsN (s[0].toNat : Int) = 4) : wordN s.data.toList = 1 + jn wordB 39 45 (s.data.toList.drop 1) := by
  have := drop_byte s 0 h
  rw [List.drop_zero] at this
  rw [this, wordN, if_pos hc]
  rfl
theorem wordN_neg (s : ByteArray) (h : 0 < s.size) (hc : ¬ clsN (s[0].toNat : Int) = 4) : wordN s.data.toList = 0 := by
  have := drop_byte s 0 h
  rw [List.drop_zero] at this
  rw [this, wordN, if_neg hc]

set_option maxHeartbeats 2000000 in
theorem word_any (s : ByteArray) (w : World) (hs : s.size ≤ 100000) :
    Calls Try.prog 53 #[.string s] w fun e w' => e = .returned (.int .i64 (wordN s.data.toList : Int)) ∧ w = w' := by
  by_cases h0 : 0 < s.size
  · have h255 : s[0].toNat < 256 := s[0].toNat_lt
    have hne : s.toList.isEmpty = false := by
      rw [toList_eq_data]
      have := drop_byte s 0 h0
      rw [List.drop_zero] at this
      rw [this]
      rfl
    have hne2 : (s.toList == []) = false := by
      rw [beq_eq_false_iff_ne]
      intro h
      rw [h] at hne
      exact absurd hne (by decide)
    by_cases aC : clsN (s[0].toNat : Int) = 4
    · have HN := Lib.hid (wordN_pos s h0 aC)
      have tC : (clsN (s[0].toNat : Int) != 4) = false := by rw [aC]; rfl
      clear aC
      go_enter Try.func53, Try.ntmps53
      go_wp2_with (go_at_call 58; refine (cls_any _ _ (by omega) (by omega)).mono ?_; rintro e w' ⟨rfl, rfl⟩)
      go_loop [3] (fun i => ∃ k : Nat, 1 ≤ k ∧ k ≤ s.size ∧ i = .int .i64 k ∧ Hid (1 + jn wordB 39 45 (s.data.toList.drop 1) = k + jn wordB 39 45 (s.data.toList.drop k))) (fun i => s.size - (intOf i).toNat)
      case atStart => exact ⟨1, by omega, by omega, rfl, rfl⟩
      case round =>
        obtain ⟨k, hk1, hk, rfl, HR⟩ := hrel
        by_cases hlt : k < s.size
        · have k255 : s[k].toNat < 256 := s[k].toNat_lt
          have HD := Lib.hid (drop_byte s k hlt)
          by_cases hin : wordB s[k] = true
          · have HI := Lib.hid hin
            by_cases a4 : (clsN (s[k].toNat : Int) == 4) = true
            · clear hin
              go_wp2_with (go_at_call 58; refine (cls_any _ _ (by omega) (by omega)).mono ?_; rintro e w' ⟨rfl, rfl⟩)
              refine ⟨⟨k + 1, by omega, by omega, by go_num, ?_⟩, by simp [intOf]; try omega⟩
              have hj := HR.out
              rw [HD.out, jn_in _ _ _ _ _ HI.out] at hj
              show _ = _
              omega
            · have b4 : (clsN (s[k].toNat : Int) == 4) = false := by simpa using a4
              have b3 : (clsN (s[k].toNat : Int) == 3) = true := by simpa [wordB, b4] using hin
              clear a4 hin
              go_wp2_with (go_at_call 58; refine (cls_any _ _ (by omega) (by omega)).mono ?_; rintro e w' ⟨rfl, rfl⟩)
              refine ⟨⟨k + 1, by omega, by omega, by go_num, ?_⟩, by simp [intOf]; try omega⟩
              have hj := HR.out
              rw [HD.out, jn_in _ _ _ _ _ HI.out] at hj
              show _ = _
              omega
          · have hin' : wordB s[k] = false := by simpa using hin
            have HI := Lib.hid hin'
            have n4 : (clsN (s[k].toNat : Int) == 4) = false := (Bool.or_eq_false_iff.1 hin').1
            have n3 : (clsN (s[k].toNat : Int) == 3) = false := (Bool.or_eq_false_iff.1 hin').2
            clear hin hin'
            by_cases c1 : ((s[k].toNat : Int) == 39) = true ∨ (((s[k].toNat : Int) == 39) = false ∧ ((s[k].toNat : Int) == 45) = true)
            · have hjt : (s[k] == 39 || s[k] == 45) = true := by
                rcases c1 with h | ⟨_, h⟩
                · have := eq_of_int s[k] 39 (by omega) (by simpa using h)
                  rw [this]; rfl
                · have := eq_of_int s[k] 45 (by omega) (by simpa using h)
                  rw [this]; rfl
              have HJ := Lib.hid hjt
              clear hjt
              by_cases h2 : k + 1 < s.size
              · have g255 : s[k + 1].toNat < 256 := s[k + 1].toNat_lt
                have HE := Lib.hid (drop_byte s (k + 1) h2)
                have e4 : (k : Int) + 1 < (s.size : Int) := by omega
                by_cases hin2 : wordB s[k + 1] = true
                · have HI2 := Lib.hid hin2
                  have hin3 := hin2
                  clear hin2
                  rcases c1 with c1 | ⟨c1, c2⟩
                  all_goals
                    by_cases a4 : (clsN (s[k + 1].toNat : Int) == 4) = true
                    · clear hin3
                      go_wp2_with (go_at_call 58; refine (cls_any _ _ (by omega) (by omega)).mono ?_; rintro e w' ⟨rfl, rfl⟩)
                      refine ⟨⟨k + 2, by omega, by omega, by go_num, ?_⟩, by simp [intOf]; try omega⟩
                      have hj := HR.out
                      rw [HD.out, HE.out, jn_two _ _ _ _ _ _ HI.out HJ.out HI2.out, show k + 1 + 1 = k + 2 from rfl] at hj
                      show _ = _
                      omega
                    · have b4 : (clsN (s[k + 1].toNat : Int) == 4) = false := by simpa using a4
                      have b3 : (clsN (s[k + 1].toNat : Int) == 3) = true := by simpa [wordB, b4] using hin3
                      clear a4 hin3
                      go_wp2_with (go_at_call 58; refine (cls_any _ _ (by omega) (by omega)).mono ?_; rintro e w' ⟨rfl, rfl⟩)
                      refine ⟨⟨k + 2, by omega, by omega, by go_num, ?_⟩, by simp [intOf]; try omega⟩
                      have hj := HR.out
                      rw [HD.out, HE.out, jn_two _ _ _ _ _ _ HI.out HJ.out HI2.out, show k + 1 + 1 = k + 2 from rfl] at hj
                      show _ = _
                      omega
                · have hin2' : wordB s[k + 1] = false := by simpa using hin2
                  have HI2 := Lib.hid hin2'
                  have m4 : (clsN (s[k + 1].toNat : Int) == 4) = false := (Bool.or_eq_false_iff.1 hin2').1
                  have m3 : (clsN (s[k + 1].toNat : Int) == 3) = false := (Bool.or_eq_false_iff.1 hin2').2
                  clear hin2 hin2'
                  rcases c1 with c1 | ⟨c1, c2⟩
                  all_goals
                    go_wp2_with (go_at_call 58; refine (cls_any _ _ (by omega) (by omega)).mono ?_; rintro e w' ⟨rfl, rfl⟩)
                    go_ret
                    have hj := HR.out
                    rw [HD.out, HE.out, jn_half _ _ _ _ _ _ HI.out HJ.out HI2.out] at hj
                    exact ⟨ret_int (by rw [HN.out]; omega), rfl⟩
              · have HE := Lib.hid (drop_end s (k + 1) (by omega))
                have e4 : decide ((k : Int) + 1 < (s.size : Int)) = false := by simp; omega
                have e5 : ¬ ((k : Int) + 1 < (s.size : Int)) := by omega
                rcases c1 with c1 | ⟨c1, c2⟩
                all_goals
                  go_wp2_with (go_at_call 58; refine (cls_any _ _ (by omega) (by omega)).mono ?_; rintro e w' ⟨rfl, rfl⟩)
                  go_ret
                  have hj := HR.out
                  rw [HD.out, HE.out, jn_end _ _ _ _ HI.out] at hj
                  exact ⟨ret_int (by rw [HN.out]; omega), rfl⟩
            · have c2 : ((s[k].toNat : Int) == 39) = false := by
                cases h : ((s[k].toNat : Int) == 39)
                · rfl
                · exact absurd (.inl h) c1
              have c3 : ((s[k].toNat : Int) == 45) = false := by
                cases h : ((s[k].toNat : Int) == 45)
                · rfl
                · exact absurd (.inr ⟨c2, h⟩) c1
              have hjf : (s[k] == 39 || s[k] == 45) = false := by
                rw [Bool.or_eq_false_iff]
                constructor
                · rw [beq_eq_false_iff_ne]; intro h; rw [h] at c2; exact absurd c2 (by decide)
                · rw [beq_eq_false_iff_ne]; intro h; rw [h] at c3; exact absurd c3 (by decide)
              have HJ := Lib.hid hjf
              clear hjf c1
              go_wp2_with (go_at_call 58; refine (cls_any _ _ (by omega) (by omega)).mono ?_; rintro e w' ⟨rfl, rfl⟩)
              go_ret
              have hj := HR.out
              rw [HD.out, jn_out _ _ _ _ _ HI.out HJ.out] at hj
              exact ⟨ret_int (by rw [HN.out]; omega), rfl⟩
        · have HE := Lib.hid (drop_end s k (by omega))
          go_wp2_with fail
          go_ret
          have hj := HR.out
          rw [HE.out, jn_nil] at hj
          exact ⟨ret_int (by rw [HN.out]; omega), rfl⟩
    · have HN := Lib.hid (wordN_neg s h0 aC)
      have tC : (clsN (s[0].toNat : Int) != 4) = true := by simpa using aC
      clear aC
      go_enter Try.func53, Try.ntmps53
      go_wp2_with (go_at_call 58; refine (cls_any _ _ (by omega) (by omega)).mono ?_; rintro e w' ⟨rfl, rfl⟩)
      go_ret
      exact ⟨ret_int (by rw [HN.out]; rfl), rfl⟩
  · have hz : s = ⟨#[]⟩ := bytes_ext (by
      have : s.data.toList.length = 0 := by rw [← Lib.size_eq]; omega
      exact List.eq_nil_of_length_eq_zero this)
    subst hz
    go_enter Try.func53, Try.ntmps53
    go_wp2_with fail
    go_ret
    exact ⟨rfl, rfl⟩

end Go.Proofs.Yteccphcophjhpaa
