/-
  Contracts of package class and of its reference (chapter 1): Trim.
-/
import Derived.Test.YtkjinepemcehnaaClass
namespace Go.Proofs.Ytkjinepemcehnaa
open Go.RowKit

theorem trim_any (s : ByteArray) (w : World) (hs : s.size ≤ maxLen) :
    Calls Try.prog 20 #[.string s] w fun e w' => ∃ x y : Nat, IsTrim s.data.toList x y ∧ e = .returned (.tuple #[.int .i64 x, .int .i64 y]) ∧ w = w' := by
  unfold maxLen at hs
  have hsz := Lib.size_eq s
  have HZ := Lib.hid hsz
  clear hsz
  go_enter Try.func20, Try.ntmps20
  go_wp2
  go_loop [2] (fun i => ∃ k : Nat, k ≤ s.size ∧ i = .int .i64 k ∧ Hid (∀ (j : Nat) (c : UInt8), j < k → s.data.toList[j]? = some c → clsN c.toNat = 2)) (fun i => s.size - (intOf i).toNat)
  case atStart => exact ⟨0, by omega, rfl, fun j c h => by omega⟩
  case round =>
    obtain ⟨k, hk, rfl, HR⟩ := hrel
    by_cases hlt : k < s.size
    · have h255 : s[k].toNat < 256 := s[k].toNat_lt
      have hgk := Lib.hid (show s.data.toList[k]? = some s[k] from List.getElem?_eq_getElem (by rw [← Lib.size_eq]; exact hlt))
      by_cases hsp : clsN (s[k].toNat : Int) = 2
      · have ht : (clsN (s[k].toNat : Int) == 2) = true := by rw [hsp]; rfl
        have HP := Lib.hid hsp
        clear hsp
        go_wp2_with (go_at_call 12; refine (of_any _ _ (by omega) (by omega)).mono ?_; rintro e w' ⟨rfl, rfl⟩)
        refine ⟨⟨k + 1, by omega, by go_num, fun j c hj hc => ?_⟩, by simp [intOf]; try omega⟩
        by_cases hjk : j = k
        · subst hjk
          rw [hgk.out] at hc
          injection hc with hc
          subst hc
          exact HP.out
        · exact HR.out j c (by omega) hc
      · have ht : (clsN (s[k].toNat : Int) == 2) = false := by simpa using hsp
        have HP := Lib.hid hsp
        clear hsp
        go_wp2_with (go_at_call 12; refine (of_any _ _ (by omega) (by omega)).mono ?_; rintro e w' ⟨rfl, rfl⟩)
        go_loop [3] (fun i => ∃ u : Nat, k ≤ u ∧ u < s.size ∧ i = .int .i64 ((u : Int) + 1) ∧ Hid (∀ (j : Nat) (c : UInt8), u + 1 ≤ j → s.data.toList[j]? = some c → clsN c.toNat = 2)) (fun i => (intOf i).toNat)
        case atStart =>
          refine ⟨s.size - 1, by omega, by omega, by go_num, fun j c hj hc => ?_⟩
          have := (List.getElem?_eq_some_iff.1 hc).1
          rw [← HZ.out] at this
          omega
        case round =>
          obtain ⟨u, hu1, hu2, rfl, HU⟩ := hrel
          have h255' : s[u].toNat < 256 := s[u].toNat_lt
          have hgu := Lib.hid (show s.data.toList[u]? = some s[u] from List.getElem?_eq_getElem (by rw [← Lib.size_eq]; exact hu2))
          by_cases hsp2 : clsN (s[u].toNat : Int) = 2
          · have hne : k ≠ u := by
              rintro rfl
              exact HP.out hsp2
            have ht2 : (clsN (s[u].toNat : Int) == 2) = true := by rw [hsp2]; rfl
            have HP2 := Lib.hid hsp2
            clear hsp2
            go_wp2_with (go_at_call 12; refine (of_any _ _ (by omega) (by omega)).mono ?_; rintro e w' ⟨rfl, rfl⟩)
            refine ⟨⟨u - 1, by omega, by omega, by go_num, fun j c hj hc => ?_⟩, by simp [intOf]; try omega⟩
            by_cases hju : j = u
            · subst hju
              rw [hgu.out] at hc
              injection hc with hc
              subst hc
              exact HP2.out
            · exact HU.out j c (by omega) hc
          · have ht2 : (clsN (s[u].toNat : Int) == 2) = false := by simpa using hsp2
            have HP2 := Lib.hid hsp2
            clear hsp2
            have hne : ((k : Int) == (u : Int) + 1) = false := by simp; omega
            go_wp2_with (go_at_call 12; refine (of_any _ _ (by omega) (by omega)).mono ?_; rintro e w' ⟨rfl, rfl⟩)
            go_ret2
            refine ⟨k, u + 1, .inr ⟨by omega, by rw [← HZ.out]; omega, fun c hc => ?_, fun c hc => ?_, fun j c hj hc => HR.out j c hj hc, fun j c hj hc => HU.out j c hj hc⟩, by go_num, rfl⟩
            · rw [hgk.out] at hc
              injection hc with hc
              subst hc
              exact HP.out
            · rw [Nat.add_sub_cancel, hgu.out] at hc
              injection hc with hc
              subst hc
              exact HP2.out
    · obtain rfl : k = s.size := by omega
      go_wp2
      go_loop [3] (fun i => i = .int .i64 (s.size : Nat)) (fun i => (intOf i).toNat)
      case atStart => rfl
      case round =>
        subst hrel
        go_wp2
        go_ret2
        refine ⟨0, 0, .inl ⟨rfl, rfl, fun j c hc => HR.out j c ?_ hc⟩, rfl, rfl⟩
        have := (List.getElem?_eq_some_iff.1 hc).1
        rw [← HZ.out] at this
        exact this

theorem rtrim_any (s : ByteArray) (w : World) (hs : s.size ≤ maxLen) :
    Calls Try.prog 21 #[.string s] w fun e w' => ∃ x y : Nat, IsTrim s.data.toList x y ∧ e = .returned (.tuple #[.int .i64 x, .int .i64 y]) ∧ w = w' := by
  unfold maxLen at hs
  have hsz := Lib.size_eq s
  have HZ := Lib.hid hsz
  clear hsz
  go_enter Try.func21, Try.ntmps21
  go_wp2
  go_loop [4] (fun i => ∃ k : Nat, k ≤ s.size ∧ i = .int .i64 k ∧ Hid (∀ (j : Nat) (c : UInt8), j < k → s.data.toList[j]? = some c → clsN c.toNat = 2)) (fun i => s.size - (intOf i).toNat)
  case atStart => exact ⟨0, by omega, rfl, fun j c h => by omega⟩
  case round =>
    obtain ⟨k, hk, rfl, HR⟩ := hrel
    by_cases hlt : k < s.size
    · have h255 : s[k].toNat < 256 := s[k].toNat_lt
      have hgk := Lib.hid (show s.data.toList[k]? = some s[k] from List.getElem?_eq_getElem (by rw [← Lib.size_eq]; exact hlt))
      by_cases hsp : clsN (s[k].toNat : Int) = 2
      · have ht : (clsN (s[k].toNat : Int) == 2) = true := by rw [hsp]; rfl
        have HP := Lib.hid hsp
        clear hsp
        go_wp2_with (go_at_call 13; refine (cls_any _ _ (by omega) (by omega)).mono ?_; rintro e w' ⟨rfl, rfl⟩)
        refine ⟨⟨k + 1, by omega, by go_num, fun j c hj hc => ?_⟩, by simp [intOf]; try omega⟩
        by_cases hjk : j = k
        · subst hjk
          rw [hgk.out] at hc
          injection hc with hc
          subst hc
          exact HP.out
        · exact HR.out j c (by omega) hc
      · have ht : (clsN (s[k].toNat : Int) == 2) = false := by simpa using hsp
        have hne : ((k : Int) == (s.size : Int)) = false := by simp; omega
        have HP := Lib.hid hsp
        clear hsp
        go_wp2_with (go_at_call 13; refine (cls_any _ _ (by omega) (by omega)).mono ?_; rintro e w' ⟨rfl, rfl⟩)
        go_loop [5] (fun i => ∃ u : Nat, k ≤ u ∧ u < s.size ∧ i = .int .i64 ((u : Int) + 1) ∧ Hid (∀ (j : Nat) (c : UInt8), u + 1 ≤ j → s.data.toList[j]? = some c → clsN c.toNat = 2)) (fun i => (intOf i).toNat)
        case atStart =>
          refine ⟨s.size - 1, by omega, by omega, by go_num, fun j c hj hc => ?_⟩
          have := (List.getElem?_eq_some_iff.1 hc).1
          rw [← HZ.out] at this
          omega
        case round =>
          obtain ⟨u, hu1, hu2, rfl, HU⟩ := hrel
          have h255' : s[u].toNat < 256 := s[u].toNat_lt
          have hgu := Lib.hid (show s.data.toList[u]? = some s[u] from List.getElem?_eq_getElem (by rw [← Lib.size_eq]; exact hu2))
          by_cases hsp2 : clsN (s[u].toNat : Int) = 2
          · have hne : k ≠ u := by
              rintro rfl
              exact HP.out hsp2
            have ht2 : (clsN (s[u].toNat : Int) == 2) = true := by rw [hsp2]; rfl
            have HP2 := Lib.hid hsp2
            clear hsp2
            go_wp2_with (go_at_call 13; refine (cls_any _ _ (by omega) (by omega)).mono ?_; rintro e w' ⟨rfl, rfl⟩)
            refine ⟨⟨u - 1, by omega, by omega, by go_num, fun j c hj hc => ?_⟩, by simp [intOf]; try omega⟩
            by_cases hju : j = u
            · subst hju
              rw [hgu.out] at hc
              injection hc with hc
              subst hc
              exact HP2.out
            · exact HU.out j c (by omega) hc
          · have ht2 : (clsN (s[u].toNat : Int) == 2) = false := by simpa using hsp2
            have HP2 := Lib.hid hsp2
            clear hsp2
            go_wp2_with (go_at_call 13; refine (cls_any _ _ (by omega) (by omega)).mono ?_; rintro e w' ⟨rfl, rfl⟩)
            go_ret2
            refine ⟨k, u + 1, .inr ⟨by omega, by rw [← HZ.out]; omega, fun c hc => ?_, fun c hc => ?_, fun j c hj hc => HR.out j c hj hc, fun j c hj hc => HU.out j c hj hc⟩, by go_num, rfl⟩
            · rw [hgk.out] at hc
              injection hc with hc
              subst hc
              exact HP.out
            · rw [Nat.add_sub_cancel, hgu.out] at hc
              injection hc with hc
              subst hc
              exact HP2.out
    · obtain rfl : k = s.size := by omega
      go_wp2
      go_ret2
      refine ⟨0, 0, .inl ⟨rfl, rfl, fun j c hc => HR.out j c ?_ hc⟩, rfl, rfl⟩
      have := (List.getElem?_eq_some_iff.1 hc).1
      rw [← HZ.out] at this
      exact this

end Go.Proofs.Ytkjinepemcehnaa
