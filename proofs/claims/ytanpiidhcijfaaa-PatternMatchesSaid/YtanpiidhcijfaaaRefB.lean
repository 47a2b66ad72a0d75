
/-
  The reference of chapter 5: plain bytes, single bytes.
-/
import Derived.Test.YtanpiidhcijfaaaRefA
namespace Go.Proofs.Ytanpiidhcijfaaa
open Go.RowKit

theorem cls_byte (x : UInt8) (w : World) : Calls Try.prog 52 #[.int .u8 x.toNat] w fun e w' => e = .returned (.int .i64 (clsN x.toNat)) ∧ w = w' :=
  cls_any _ _ (by omega) (by have := x.toNat_lt; omega)
def plainB (sp : ByteArray) (b : Nat) : Bool := wrB b && !inB sp b
set_option maxRecDepth 100000 in
set_option maxHeartbeats 1000000 in
theorem plain_any (b : Nat) (sp : ByteArray) (w : World) (hb : b < 256) (hs : sp.size ≤ maxLen) :
    Calls Try.prog 54 #[.int .u8 b, .string sp] w fun e w' => e = .returned (.bool (plainB sp b)) ∧ w = w' := by
  have HI := Lib.hid (fun w => in_any sp b w hs)
  by_cases h4 : clsN (b : Int) = 4
  · have HP : Hid (plainB sp b = !inB sp b) := by
      show _ = _
      unfold plainB wrB
      rw [h4]
      simp
    have t4 : (clsN (b : Int) == 4) = true := by rw [h4]; rfl
    clear h4
    generalize inB sp b = z at HP HI
    go_enter Try.func54, Try.ntmps54
    go_wp2_with (first
      | (go_at_call 52; refine (cls_any _ _ (by omega) (by omega)).mono ?_; rintro e w' ⟨rfl, rfl⟩)
      | (go_at_call 63; refine (HI.out _).mono ?_; rintro e w' ⟨rfl, rfl⟩))
    go_ret
    exact ⟨ret_bool (by rw [HP.out]; try rfl), rfl⟩
  have t4 : (clsN (b : Int) == 4) = false := by simpa using h4
  clear h4
  by_cases h3 : clsN (b : Int) = 3
  · have HP : Hid (plainB sp b = !inB sp b) := by
      show _ = _
      unfold plainB wrB
      rw [h3]
      simp
    have t3 : (clsN (b : Int) == 3) = true := by rw [h3]; rfl
    clear h3
    generalize inB sp b = z at HP HI
    go_enter Try.func54, Try.ntmps54
    go_wp2_with (first
      | (go_at_call 52; refine (cls_any _ _ (by omega) (by omega)).mono ?_; rintro e w' ⟨rfl, rfl⟩)
      | (go_at_call 63; refine (HI.out _).mono ?_; rintro e w' ⟨rfl, rfl⟩))
    go_ret
    exact ⟨ret_bool (by rw [HP.out]; try rfl), rfl⟩
  have t3 : (clsN (b : Int) == 3) = false := by simpa using h3
  clear h3
  by_cases h5 : clsN (b : Int) = 5
  · have HP : Hid (plainB sp b = !inB sp b) := by
      show _ = _
      unfold plainB wrB
      rw [h5]
      simp
    have t5 : (clsN (b : Int) == 5) = true := by rw [h5]; rfl
    clear h5
    generalize inB sp b = z at HP HI
    go_enter Try.func54, Try.ntmps54
    go_wp2_with (first
      | (go_at_call 52; refine (cls_any _ _ (by omega) (by omega)).mono ?_; rintro e w' ⟨rfl, rfl⟩)
      | (go_at_call 63; refine (HI.out _).mono ?_; rintro e w' ⟨rfl, rfl⟩))
    go_ret
    exact ⟨ret_bool (by rw [HP.out]; try rfl), rfl⟩
  have t5 : (clsN (b : Int) == 5) = false := by simpa using h5
  clear h5
  have HP : Hid (plainB sp b = false) := by
    show _ = _
    unfold plainB wrB
    rw [t4, t3, t5]
    rfl
  generalize inB sp b = z at HI
  go_enter Try.func54, Try.ntmps54
  go_wp2_with (first
    | (go_at_call 52; refine (cls_any _ _ (by omega) (by omega)).mono ?_; rintro e w' ⟨rfl, rfl⟩)
    | (go_at_call 63; refine (HI.out _).mono ?_; rintro e w' ⟨rfl, rfl⟩))
  go_ret
  exact ⟨ret_bool (by rw [HP.out]; try rfl), rfl⟩

/-- A single byte of a member at i: the byte, the offset behind it, the offset of a fault or -1. -/
def rsF (s : ByteArray) (i : Nat) : Nat × Nat × Int :=
  if s.size ≤ i then (0, 0, (s.size : Int))
  else if bt s i = 92 then
    if s.size ≤ i + 1 then (0, 0, (s.size : Int))
    else if clsN (bt s (i + 1) : Int) ≠ 5 then (0, 0, ((i + 1 : Nat) : Int))
    else (bt s (i + 1), i + 2, -1)
  else if plainB (⟨#[92, 93, 91, 94, 45]⟩ : ByteArray) (bt s i) = true then (bt s i, i + 1, -1)
  else (0, 0, (i : Int))

set_option maxRecDepth 100000 in
set_option maxHeartbeats 2000000 in
theorem rsingle_any (s : ByteArray) (i : Nat) (w : World) (hs : s.size ≤ 2147483648) (hi : i ≤ 2147483648) :
    Calls Try.prog 62 #[.string s, .int .i64 i] w fun e w' => e = .returned (.tuple #[.int .u8 (rsF s i).1, .int .i64 (rsF s i).2.1, .int .i64 (rsF s i).2.2]) ∧ w = w' := by
  by_cases h0 : s.size ≤ i
  · have HR : Hid (rsF s i = (0, 0, (s.size : Int))) := by show _ = _; unfold rsF; rw [if_pos h0]
    have h0i : (s.size : Int) ≤ (i : Int) := by omega
    go_enter Try.func62, Try.ntmps62
    go_wp2_with fail
    go_ret3
    exact ⟨by (rw [HR.out] <;> rfl), rfl⟩
  have hi : i < s.size := by omega
  have hii : (i : Int) < (s.size : Int) := by omega
  have hin : ¬ ((s.size : Int) ≤ (i : Int)) := by omega
  obtain ⟨c, HC⟩ : ∃ c, Hid (c = bt s i) := ⟨_, rfl⟩
  have hc2 : c < 256 := by rw [HC.out]; exact bt_lt s i
  have hg : s[i].toNat = c := by rw [HC.out, bt_get s i hi]
  by_cases h92 : c = 92
  · have t92 : ((s[i].toNat : Int) == 92) = true := beq_iff_eq.2 (by omega)
    clear hg
    by_cases h1 : s.size ≤ i + 1
    · have HR : Hid (rsF s i = (0, 0, (s.size : Int))) := by show _ = _; unfold rsF; rw [if_neg h0, ← HC.out, if_pos h92, if_pos h1]
      have h1i : (s.size : Int) ≤ (i : Int) + 1 := by omega
      clear h92 h0
      go_enter Try.func62, Try.ntmps62
      go_wp2_with fail
      go_ret3
      exact ⟨by (rw [HR.out] <;> rfl), rfl⟩
    have h1j : i + 1 < s.size := by omega
    have h1i : ¬ (s.size : Int) ≤ (i : Int) + 1 := by omega
    obtain ⟨d, HD⟩ : ∃ d, Hid (d = bt s (i + 1)) := ⟨_, rfl⟩
    have hd2 : d < 256 := by rw [HD.out]; exact bt_lt s (i + 1)
    have hgd : Hid (∀ h, (s[((i : Int) + 1).toNat]'h).toNat = d) := fun h => by
      rw [HD.out, bt_get s (i + 1) h1j]
      have : ((i : Int) + 1).toNat = i + 1 := by omega
      simp only [this]
    by_cases h5 : clsN (d : Int) = 5
    · have HR : Hid (rsF s i = (d, i + 2, -1)) := by show _ = _; unfold rsF; rw [if_neg h0, ← HC.out, if_pos h92, if_neg h1, ← HD.out, if_neg (by simp [h5])]
      have t5 : (clsN (d : Int) != 5) = false := by simpa using h5
      rw [HD.out, bt_get s (i + 1) h1j] at t5
      clear h92 h0 h1 h5
      go_enter Try.func62, Try.ntmps62
      go_wp2_with (go_at_call 52; refine (cls_byte _ _).mono ?_; rintro e w' ⟨rfl, rfl⟩)
      go_ret3
      exact ⟨by (rw [HR.out, HD.out, bt_get s (i + 1) h1j] <;> rfl), rfl⟩
    · have HR : Hid (rsF s i = (0, 0, ((i + 1 : Nat) : Int))) := by show _ = _; unfold rsF; rw [if_neg h0, ← HC.out, if_pos h92, if_neg h1, ← HD.out, if_pos h5]
      have t5 : (clsN (d : Int) != 5) = true := by simpa using h5
      rw [HD.out, bt_get s (i + 1) h1j] at t5
      clear h92 h0 h1 h5
      go_enter Try.func62, Try.ntmps62
      go_wp2_with (go_at_call 52; refine (cls_byte _ _).mono ?_; rintro e w' ⟨rfl, rfl⟩)
      go_ret3
      exact ⟨by (rw [HR.out] <;> rfl), rfl⟩
  have t92 : ((s[i].toNat : Int) == 92) = false := beq_eq_false_iff_ne.2 (by omega)
  have HPL := Lib.hid (fun w => plain_any c (⟨#[92, 93, 91, 94, 45]⟩ : ByteArray) w hc2 (by decide))
  have hgc : (s[i].toNat : Int) = (c : Int) := by omega
  by_cases hp : plainB (⟨#[92, 93, 91, 94, 45]⟩ : ByteArray) c = true
  · have HR : Hid (rsF s i = (c, i + 1, -1)) := by show _ = _; unfold rsF; rw [if_neg h0, ← HC.out, if_neg h92, if_pos hp]
    rw [hp] at HPL
    clear hp h92 h0 hg
    go_enter Try.func62, Try.ntmps62
    go_wp2_with (go_at_call 54; refine (HPL.out _).mono ?_; rintro e w' ⟨rfl, rfl⟩)
    go_ret3
    exact ⟨by (rw [HR.out] <;> rfl), rfl⟩
  · have HR : Hid (rsF s i = (0, 0, (i : Int))) := by show _ = _; unfold rsF; rw [if_neg h0, ← HC.out, if_neg h92, if_neg hp]
    rw [Bool.not_eq_true _ |>.mp hp] at HPL
    clear hp h92 h0 hg
    go_enter Try.func62, Try.ntmps62
    go_wp2_with (go_at_call 54; refine (HPL.out _).mono ?_; rintro e w' ⟨rfl, rfl⟩)
    go_ret3
    exact ⟨by (rw [HR.out] <;> rfl), rfl⟩

end Go.Proofs.Ytanpiidhcijfaaa
