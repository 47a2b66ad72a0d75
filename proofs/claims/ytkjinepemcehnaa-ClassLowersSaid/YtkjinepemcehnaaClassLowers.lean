/-
  The walk of the law ClassLowers.
-/
import Derived.Test.YtkjinepemcehnaaClassG
namespace Go.Proofs.Ytkjinepemcehnaa
open Go.RowKit

theorem lowB_idem (c : UInt8) : lowB (lowB c) = lowB c := by
  apply UInt8.toNat_inj.1
  rw [lowB_nat, lowB_nat]
  by_cases h : 65 ≤ c.toNat ∧ c.toNat ≤ 90
  · rw [if_pos h, if_neg (by omega)]
  · rw [if_neg h, if_neg h]
theorem lowL_idem (l : List UInt8) : lowL (lowL l) = lowL l := by simp [lowL, lowB_idem]
theorem lowL_append (l m : List UInt8) : lowL (l ++ m) = lowL l ++ lowL m := by simp [lowL]
theorem lowL_length (l : List UInt8) : (lowL l).length = l.length := by simp [lowL]
theorem size_mk (l : List UInt8) : (ByteArray.mk l.toArray).size = l.length := by show l.toArray.size = _; simp

theorem walk_ClassLowers (s t : ByteArray) (w : World) (hs : s.size ≤ maxLen) (ht : t.size ≤ maxLen) :
    Calls Try.prog 4 #[.string s, .string t] w fun e w' => e = .returned (.bool true) ∧ Below w.heap.size w w' := by
  unfold maxLen at hs ht
  by_cases h1 : 300 < s.size
  · go_enter Try.func4, Try.ntmps4
    go_wp2_with (go_at_call 14; refine (known_any _).mono ?_; rintro e w' ⟨rfl, hb'⟩)
    go_ret
    exact ⟨rfl, hb'⟩
  by_cases h2 : 300 < t.size
  · go_enter Try.func4, Try.ntmps4
    go_wp2_with (go_at_call 14; refine (known_any _).mono ?_; rintro e w' ⟨rfl, hb'⟩)
    go_ret
    exact ⟨rfl, hb'⟩
  obtain ⟨a, ha⟩ : ∃ a : ByteArray, a = ⟨(lowL s.data.toList).toArray⟩ := ⟨_, rfl⟩
  obtain ⟨b, hb⟩ : ∃ b : ByteArray, b = ⟨(lowL t.data.toList).toArray⟩ := ⟨_, rfl⟩
  have hsa : a.size = s.size := by rw [ha, size_mk, lowL_length, Lib.size_eq]
  have hsb : b.size = t.size := by rw [hb, size_mk, lowL_length, Lib.size_eq]
  have c1 : ∀ w, Calls Try.prog 11 #[.string s] w fun e w' => e = .returned (.string a) ∧ Below w.heap.size w w' := fun w => by
    rw [ha]; exact lower_any s w (by unfold maxLen; omega)
  have c2 : ∀ w, Calls Try.prog 15 #[.string s] w fun e w' => e = .returned (.string a) ∧ Below w.heap.size w w' := fun w => by
    rw [ha]; exact rlower_any s w (by unfold maxLen; omega)
  have c3 : ∀ w, Calls Try.prog 11 #[.string a] w fun e w' => e = .returned (.string a) ∧ Below w.heap.size w w' := fun w => by
    have h := lower_any a w (by unfold maxLen; omega)
    have e : (⟨(lowL a.data.toList).toArray⟩ : ByteArray) = a := by rw [ha]; simp only [lowL_idem]
    rw [e] at h
    exact h
  have c4 : ∀ w, Calls Try.prog 11 #[.string t] w fun e w' => e = .returned (.string b) ∧ Below w.heap.size w w' := fun w => by
    rw [hb]; exact lower_any t w (by unfold maxLen; omega)
  have c5 : ∀ w, Calls Try.prog 11 #[.string (s ++ t)] w fun e w' => e = .returned (.string (a ++ b)) ∧ Below w.heap.size w w' := fun w => by
    have h := lower_any (s ++ t) w (by rw [size_append]; unfold maxLen; omega)
    have e : (⟨(lowL (s ++ t).data.toList).toArray⟩ : ByteArray) = a ++ b := by
      rw [ha, hb, data_append, lowL_append, ByteArray.mk_append_mk]
    rw [e] at h
    exact h
  have C1 := Lib.hid c1
  have C2 := Lib.hid c2
  have C3 := Lib.hid c3
  have C4 := Lib.hid c4
  have C5 := Lib.hid c5
  have hsa' : a.size ≤ 300 := by omega
  have hsb' : b.size ≤ 300 := by omega
  clear c1 c2 c3 c4 c5 ha hb hsa hsb
  go_enter Try.func4, Try.ntmps4
  go_wp2_with fail
  refine (C1.out _).mono ?_
  rintro e w1 ⟨rfl, b1⟩
  go_wp2_with fail
  refine (C2.out _).mono ?_
  rintro e w2 ⟨rfl, b2⟩
  go_wp2_with fail
  refine (C3.out _).mono ?_
  rintro e w3 ⟨rfl, b3⟩
  go_wp2_with fail
  refine (C5.out _).mono ?_
  rintro e w4 ⟨rfl, b4⟩
  go_wp2_with fail
  refine (C4.out _).mono ?_
  rintro e w5 ⟨rfl, b5⟩
  go_wp2_with fail
  refine (known_any _).mono ?_
  rintro e w6 ⟨rfl, b6⟩
  go_wp2_with fail
  go_ret
  refine ⟨rfl, ?_⟩
  have z1 := b1.size
  have z2 := b2.size
  have z3 := b3.size
  have z4 := b4.size
  have z5 := b5.size
  exact ((((b1.trans (b2.mono (by omega))).trans (b3.mono (by omega))).trans (b4.mono (by omega))).trans (b5.mono (by omega))).trans (b6.mono (by omega))

end Go.Proofs.Ytkjinepemcehnaa
