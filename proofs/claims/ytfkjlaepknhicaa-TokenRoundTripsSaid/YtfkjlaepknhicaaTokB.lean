
/-
  Contracts of package token and of its reference (chapter 11): the length of a number.
-/
import Derived.Test.YtfkjlaepknhicaaTokA
namespace Go.Proofs.Ytfkjlaepknhicaa
open Go.RowKit

set_option maxHeartbeats 4000000 in
theorem joined_digit (s : ByteArray) (w : World) (hs : s.size ≤ 100000) (h0 : 0 < s.size) :
    Calls Try.prog 40 #[.string s, .string ⟨#[46, 44]⟩, .func (.func 42) #[] #[]] w fun e w' => ∃ n, e = .returned (.int .i64 ((1 + jn digB 46 44 (s.data.toList.drop 1) : Nat) : Int)) ∧ w' = w.drewN n := by
  have j0 : ∀ h, ((⟨#[46, 44]⟩ : ByteArray)[0]'h).toNat = 46 := fun _ => rfl
  have j1 : ∀ h, ((⟨#[46, 44]⟩ : ByteArray)[1]'h).toNat = 44 := fun _ => rfl
  go_enter Try.func40, Try.ntmps40
  go_wp2
  go_loopw [7] (fun i wr => ∃ k m : Nat, 1 ≤ k ∧ k ≤ s.size ∧ i = .int .i64 k ∧ wr = w.drewN m ∧ Hid (1 + jn digB 46 44 (s.data.toList.drop 1) = k + jn digB 46 44 (s.data.toList.drop k))) (fun i _ => s.size - (intOf i).toNat)
  case atStart => exact ⟨1, 0, by omega, by omega, rfl, rfl, rfl⟩
  case round =>
    obtain ⟨k, m, hk1, hk, rfl, rfl, HR⟩ := hrel
    by_cases hlt : k < s.size
    · have h255 : s[k].toNat < 256 := s[k].toNat_lt
      have HD := Lib.hid (drop_byte s k hlt)
      by_cases hin : digB s[k] = true
      · have ht : (clsN (s[k].toNat : Int) == 3) = true := hin
        have HI := Lib.hid hin
        clear hin
        go_wp2_with (go_at_call 42; refine (digit_any _ _ (by omega) (by omega)).mono ?_; rintro e w' ⟨rfl, rfl⟩)
        refine ⟨⟨k + 1, m, by omega, by omega, by go_num, rfl, ?_⟩, by simp [intOf]; try omega⟩
        have hj := HR.out
        rw [HD.out, jn_in _ _ _ _ _ HI.out] at hj
        show _ = _
        omega
      · have hin' : digB s[k] = false := by simpa using hin
        have ht : (clsN (s[k].toNat : Int) == 3) = false := hin'
        have HI := Lib.hid hin'
        clear hin hin'
        by_cases c1 : ((s[k].toNat : Int) == 46) = true ∨ (((s[k].toNat : Int) == 46) = false ∧ ((s[k].toNat : Int) == 44) = true)
        · have hjt : (s[k] == 46 || s[k] == 44) = true := by
            rcases c1 with h | ⟨_, h⟩
            · have := eq_of_int s[k] 46 (by omega) (by simpa using h)
              rw [this]; rfl
            · have := eq_of_int s[k] 44 (by omega) (by simpa using h)
              rw [this]; rfl
          have HJ := Lib.hid hjt
          clear hjt
          by_cases h2 : k + 1 < s.size
          · have g255 : s[k + 1].toNat < 256 := s[k + 1].toNat_lt
            have HE := Lib.hid (drop_byte s (k + 1) h2)
            have e1 : IntKind.i64.wrap ((k : Int) + 1) = (k : Int) + 1 := by rw [IntKind.wrap_i64]; omega
            have e2 : ((k : Int) + 1).toNat = k + 1 := by omega
            have e3 : 0 ≤ (k : Int) + 1 := by omega
            have e4 : (k : Int) + 1 < (s.size : Int) := by omega
            by_cases hin2 : digB s[k + 1] = true
            · have ht2 : (clsN (s[k + 1].toNat : Int) == 3) = true := hin2
              have HI2 := Lib.hid hin2
              clear hin2
              rcases c1 with c1 | ⟨c1, c2⟩
              all_goals
                go_wp2_with (go_at_call 42; refine (digit_any _ _ (by omega) (by omega)).mono ?_; rintro e w' ⟨rfl, rfl⟩)
                go_quiet ((go_at_call 42; first | exact quiet_left (digit_any _ _ (by omega) (by omega)) | exact quiet_add_left (digit_any _ _ (by omega) (by omega))))
                clear e1
                go_wp2_with fail
                refine ⟨⟨k + 2, _, by omega, by omega, by go_num, rfl, ?_⟩, by simp [intOf]; try omega⟩
                have hj := HR.out
                rw [HD.out, HE.out, jn_two _ _ _ _ _ _ HI.out HJ.out HI2.out, show k + 1 + 1 = k + 2 from rfl] at hj
                show _ = _
                omega
            · have hin2' : digB s[k + 1] = false := by simpa using hin2
              have ht2 : (clsN (s[k + 1].toNat : Int) == 3) = false := hin2'
              have HI2 := Lib.hid hin2'
              clear hin2 hin2'
              rcases c1 with c1 | ⟨c1, c2⟩
              all_goals
                go_wp2_with (go_at_call 42; refine (digit_any _ _ (by omega) (by omega)).mono ?_; rintro e w' ⟨rfl, rfl⟩)
                go_quiet ((go_at_call 42; first | exact quiet_left (digit_any _ _ (by omega) (by omega)) | exact quiet_add_left (digit_any _ _ (by omega) (by omega))))
                clear e1
                go_wp2_with fail
                go_ret
                refine ⟨_, ret_int ?_, by first | rfl | exact World.drewN_drewN _ _ _⟩
                have hj := HR.out
                rw [HD.out, HE.out, jn_half _ _ _ _ _ _ HI.out HJ.out HI2.out] at hj
                omega
          · have HE := Lib.hid (drop_end s (k + 1) (by omega))
            have e1 : IntKind.i64.wrap ((k : Int) + 1) = (k : Int) + 1 := by rw [IntKind.wrap_i64]; omega
            have e4 : decide ((k : Int) + 1 < (s.size : Int)) = false := by simp; omega
            rcases c1 with c1 | ⟨c1, c2⟩
            all_goals
              go_wp2_with (go_at_call 42; refine (digit_any _ _ (by omega) (by omega)).mono ?_; rintro e w' ⟨rfl, rfl⟩)
              go_quiet ((go_at_call 42; first | exact quiet_left (digit_any _ _ (by omega) (by omega)) | exact quiet_add_left (digit_any _ _ (by omega) (by omega))))
              clear e1
              go_wp2_with fail
              go_ret
              refine ⟨_, ret_int ?_, by first | rfl | exact World.drewN_drewN _ _ _⟩
              have hj := HR.out
              rw [HD.out, HE.out, jn_end _ _ _ _ HI.out] at hj
              omega
        · have c2 : ((s[k].toNat : Int) == 46) = false := by
            cases h : ((s[k].toNat : Int) == 46)
            · rfl
            · exact absurd (.inl h) c1
          have c3 : ((s[k].toNat : Int) == 44) = false := by
            cases h : ((s[k].toNat : Int) == 44)
            · rfl
            · exact absurd (.inr ⟨c2, h⟩) c1
          have hjf : (s[k] == 46 || s[k] == 44) = false := by
            rw [Bool.or_eq_false_iff]
            constructor
            · rw [beq_eq_false_iff_ne]; intro h; rw [h] at c2; exact absurd c2 (by decide)
            · rw [beq_eq_false_iff_ne]; intro h; rw [h] at c3; exact absurd c3 (by decide)
          have HJ := Lib.hid hjf
          clear hjf c1
          go_wp2_with (go_at_call 42; refine (digit_any _ _ (by omega) (by omega)).mono ?_; rintro e w' ⟨rfl, rfl⟩)
          go_quiet ((go_at_call 42; first | exact quiet_left (digit_any _ _ (by omega) (by omega)) | exact quiet_add_left (digit_any _ _ (by omega) (by omega))))
          go_wp2_with fail
          go_ret
          refine ⟨_, ret_int ?_, by first | rfl | exact World.drewN_drewN _ _ _⟩
          have hj := HR.out
          rw [HD.out, jn_out _ _ _ _ _ HI.out HJ.out] at hj
          omega
    · have HE := Lib.hid (drop_end s k (by omega))
      go_wp2_with fail
      go_ret
      refine ⟨_, ret_int ?_, by first | rfl | exact World.drewN_drewN _ _ _⟩
      have hj := HR.out
      rw [HE.out, jn_nil] at hj
      omega

end Go.Proofs.Ytfkjlaepknhicaa
