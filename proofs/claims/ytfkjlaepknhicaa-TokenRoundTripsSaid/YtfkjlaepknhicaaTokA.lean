
/-
  Contracts of package token and of its reference (chapter 11): the length of a token.
-/
import Derived.Test.YtfkjlaepknhicaaClass
import Derived.Test.YtfkjlaepknhicaaMath11
namespace Go.Proofs.Ytfkjlaepknhicaa
open Go.RowKit

theorem get_byte (s : ByteArray) (k : Nat) (h : k < s.size) : s.data.toList[k]? = some s[k] := List.getElem?_eq_getElem (by rw [← Lib.size_eq]; exact h)
theorem drop_byte (s : ByteArray) (k : Nat) (h : k < s.size) : s.data.toList.drop k = s[k] :: s.data.toList.drop (k + 1) := by
  rw [List.drop_eq_getElem_cons (by rw [← Lib.size_eq]; exact h)]
  rfl
theorem drop_end (s : ByteArray) (k : Nat) (h : s.size ≤ k) : s.data.toList.drop k = [] := List.drop_of_length_le (by rw [← Lib.size_eq]; exact h)
theorem eq_of_int (c : UInt8) (n : Nat) (hn : n < 256) (h : (c.toNat : Int) = n) : c = UInt8.ofNat n := by
  apply UInt8.toNat_inj.1
  rw [UInt8.toNat_ofNat']
  omega

theorem wordly_any (n : Int) (w : World) (h0 : 0 ≤ n) (h1 : n < 256) :
    Calls Try.prog 41 #[.int .u8 n] w fun e w' => e = .returned (.bool (clsN n == 4 || clsN n == 3)) ∧ w = w' := by
  go_enter Try.func41, Try.ntmps41
  go_wp2_with (go_at_call 39; refine (of_any _ _ h0 h1).mono ?_; rintro e w' ⟨rfl, rfl⟩)
  all_goals (go_ret; refine ⟨ret_bool ?_, rfl⟩)
  all_goals simp [*]
theorem digit_any (n : Int) (w : World) (h0 : 0 ≤ n) (h1 : n < 256) :
    Calls Try.prog 42 #[.int .u8 n] w fun e w' => e = .returned (.bool (clsN n == 3)) ∧ w = w' := by
  go_enter Try.func42, Try.ntmps42
  go_wp2_with (go_at_call 39; refine (of_any _ _ h0 h1).mono ?_; rintro e w' ⟨rfl, rfl⟩)
  go_ret
  exact ⟨rfl, rfl⟩

set_option maxHeartbeats 4000000 in
theorem joined_wordly (s : ByteArray) (w : World) (hs : s.size ≤ 100000) (h0 : 0 < s.size) :
    Calls Try.prog 40 #[.string s, .string ⟨#[39, 45]⟩, .func (.func 41) #[] #[]] w fun e w' => ∃ n, e = .returned (.int .i64 ((1 + jn wordB 39 45 (s.data.toList.drop 1) : Nat) : Int)) ∧ w' = w.drewN n := by
  have j0 : ∀ h, ((⟨#[39, 45]⟩ : ByteArray)[0]'h).toNat = 39 := fun _ => rfl
  have j1 : ∀ h, ((⟨#[39, 45]⟩ : ByteArray)[1]'h).toNat = 45 := fun _ => rfl
  go_enter Try.func40, Try.ntmps40
  go_wp2
  go_loopw [7] (fun i wr => ∃ k m : Nat, 1 ≤ k ∧ k ≤ s.size ∧ i = .int .i64 k ∧ wr = w.drewN m ∧ Hid (1 + jn wordB 39 45 (s.data.toList.drop 1) = k + jn wordB 39 45 (s.data.toList.drop k))) (fun i _ => s.size - (intOf i).toNat)
  case atStart => exact ⟨1, 0, by omega, by omega, rfl, rfl, rfl⟩
  case round =>
    obtain ⟨k, m, hk1, hk, rfl, rfl, HR⟩ := hrel
    by_cases hlt : k < s.size
    · have h255 : s[k].toNat < 256 := s[k].toNat_lt
      have HD := Lib.hid (drop_byte s k hlt)
      by_cases hin : wordB s[k] = true
      · have ht : (clsN (s[k].toNat : Int) == 4 || clsN (s[k].toNat : Int) == 3) = true := hin
        have HI := Lib.hid hin
        clear hin
        go_wp2_with (go_at_call 41; refine (wordly_any _ _ (by omega) (by omega)).mono ?_; rintro e w' ⟨rfl, rfl⟩)
        refine ⟨⟨k + 1, m, by omega, by omega, by go_num, rfl, ?_⟩, by simp [intOf]; try omega⟩
        have hj := HR.out
        rw [HD.out, jn_in _ _ _ _ _ HI.out] at hj
        show _ = _
        omega
      · have hin' : wordB s[k] = false := by simpa using hin
        have ht : (clsN (s[k].toNat : Int) == 4 || clsN (s[k].toNat : Int) == 3) = false := hin'
        have HI := Lib.hid hin'
        clear hin hin'
        by_cases c1 : ((s[k].toNat : Int) == 39) = true ∨ (((s[k].toNat : Int) == 39) = false ∧ ((s[k].toNat : Int) == 45) = true)
        · have hjt : (s[k] == 39 || s[k] == 45) = true := by
            rcases c1 with h | ⟨_, h⟩
            · have := eq_of_int s[k] 39 (by omega) (by simpa using h)
              rw [this]; rfl
            · have := eq_of_int s[k] 45 (by omega) (by simpa using h)
              rw [this]; rfl
          have HJ := Lib.hid hjt
          clear hjt
          by_cases h2 : k + 1 < s.size
          · have g255 : s[k + 1].toNat < 256 := s[k + 1].toNat_lt
            have HE := Lib.hid (drop_byte s (k + 1) h2)
            have e1 : IntKind.i64.wrap ((k : Int) + 1) = (k : Int) + 1 := by rw [IntKind.wrap_i64]; omega
            have e2 : ((k : Int) + 1).toNat = k + 1 := by omega
            have e3 : 0 ≤ (k : Int) + 1 := by omega
            have e4 : (k : Int) + 1 < (s.size : Int) := by omega
            by_cases hin2 : wordB s[k + 1] = true
            · have ht2 : (clsN (s[k + 1].toNat : Int) == 4 || clsN (s[k + 1].toNat : Int) == 3) = true := hin2
              have HI2 := Lib.hid hin2
              clear hin2
              rcases c1 with c1 | ⟨c1, c2⟩
              all_goals
                go_wp2_with (go_at_call 41; refine (wordly_any _ _ (by omega) (by omega)).mono ?_; rintro e w' ⟨rfl, rfl⟩)
                go_quiet ((go_at_call 41; first | exact quiet_left (wordly_any _ _ (by omega) (by omega)) | exact quiet_add_left (wordly_any _ _ (by omega) (by omega))))
                clear e1
                go_wp2_with fail
                refine ⟨⟨k + 2, _, by omega, by omega, by go_num, rfl, ?_⟩, by simp [intOf]; try omega⟩
                have hj := HR.out
                rw [HD.out, HE.out, jn_two _ _ _ _ _ _ HI.out HJ.out HI2.out, show k + 1 + 1 = k + 2 from rfl] at hj
                show _ = _
                omega
            · have hin2' : wordB s[k + 1] = false := by simpa using hin2
              have ht2 : (clsN (s[k + 1].toNat : Int) == 4 || clsN (s[k + 1].toNat : Int) == 3) = false := hin2'
              have HI2 := Lib.hid hin2'
              clear hin2 hin2'
              rcases c1 with c1 | ⟨c1, c2⟩
              all_goals
                go_wp2_with (go_at_call 41; refine (wordly_any _ _ (by omega) (by omega)).mono ?_; rintro e w' ⟨rfl, rfl⟩)
                go_quiet ((go_at_call 41; first | exact quiet_left (wordly_any _ _ (by omega) (by omega)) | exact quiet_add_left (wordly_any _ _ (by omega) (by omega))))
                clear e1
                go_wp2_with fail
                go_ret
                refine ⟨_, ret_int ?_, by first | rfl | exact World.drewN_drewN _ _ _⟩
                have hj := HR.out
                rw [HD.out, HE.out, jn_half _ _ _ _ _ _ HI.out HJ.out HI2.out] at hj
                omega
          · have HE := Lib.hid (drop_end s (k + 1) (by omega))
            have e1 : IntKind.i64.wrap ((k : Int) + 1) = (k : Int) + 1 := by rw [IntKind.wrap_i64]; omega
            have e4 : decide ((k : Int) + 1 < (s.size : Int)) = false := by simp; omega
            rcases c1 with c1 | ⟨c1, c2⟩
            all_goals
              go_wp2_with (go_at_call 41; refine (wordly_any _ _ (by omega) (by omega)).mono ?_; rintro e w' ⟨rfl, rfl⟩)
              go_quiet ((go_at_call 41; first | exact quiet_left (wordly_any _ _ (by omega) (by omega)) | exact quiet_add_left (wordly_any _ _ (by omega) (by omega))))
              clear e1
              go_wp2_with fail
              go_ret
              refine ⟨_, ret_int ?_, by first | rfl | exact World.drewN_drewN _ _ _⟩
              have hj := HR.out
              rw [HD.out, HE.out, jn_end _ _ _ _ HI.out] at hj
              omega
        · have c2 : ((s[k].toNat : Int) == 39) = false := by
            cases h : ((s[k].toNat : Int) == 39)
            · rfl
            · exact absurd (.inl h) c1
          have c3 : ((s[k].toNat : Int) == 45) = false := by
            cases h : ((s[k].toNat : Int) == 45)
            · rfl
            · exact absurd (.inr ⟨c2, h⟩) c1
          have hjf : (s[k] == 39 || s[k] == 45) = false := by
            rw [Bool.or_eq_false_iff]
            constructor
            · rw [beq_eq_false_iff_ne]; intro h; rw [h] at c2; exact absurd c2 (by decide)
            · rw [beq_eq_false_iff_ne]; intro h; rw [h] at c3; exact absurd c3 (by decide)
          have HJ := Lib.hid hjf
          clear hjf c1
          go_wp2_with (go_at_call 41; refine (wordly_any _ _ (by omega) (by omega)).mono ?_; rintro e w' ⟨rfl, rfl⟩)
          go_quiet ((go_at_call 41; first | exact quiet_left (wordly_any _ _ (by omega) (by omega)) | exact quiet_add_left (wordly_any _ _ (by omega) (by omega))))
          go_wp2_with fail
          go_ret
          refine ⟨_, ret_int ?_, by first | rfl | exact World.drewN_drewN _ _ _⟩
          have hj := HR.out
          rw [HD.out, jn_out _ _ _ _ _ HI.out HJ.out] at hj
          omega
    · have HE := Lib.hid (drop_end s k (by omega))
      go_wp2_with fail
      go_ret
      refine ⟨_, ret_int ?_, by first | rfl | exact World.drewN_drewN _ _ _⟩
      have hj := HR.out
      rw [HE.out, jn_nil] at hj
      omega

end Go.Proofs.Ytfkjlaepknhicaa
