/-
  The walk of the law ClassBytes.
-/
import Derived.Test.YtkjinepemcehnaaClassG
namespace Go.Proofs.Ytkjinepemcehnaa
open Go.RowKit

def lowI (b : Int) : Int := if 65 ≤ b ∧ b ≤ 90 then b + 32 else b
theorem clsN_low (b : Int) : clsN (lowI b) = clsN b := by
  unfold lowI
  split
  · unfold clsN
    repeat (first | rw [if_pos (by omega)] | rw [if_neg (by omega)])
  · rfl

theorem lower_byte (b : Int) (w : World) (h0 : 0 ≤ b) (h1 : b < 256) :
    Calls Try.prog 11 #[.string ⟨#[UInt8.ofNat b.toNat]⟩] w fun e w' => ∃ (r : ByteArray) (m : Int), e = .returned (.string r) ∧ r.size = 1 ∧ (∀ h : 0 < r.size, ((r[0]'h).toNat : Int) = m) ∧ m = lowI b ∧ Below w.heap.size w w' := by
  refine (lower_any _ w (by show 1 ≤ maxLen; decide)).mono ?_
  rintro e w' ⟨rfl, hb⟩
  refine ⟨_, ((lowB (UInt8.ofNat b.toNat)).toNat : Int), rfl, rfl, fun h => rfl, ?_, hb⟩
  rw [lowB_nat, UInt8.toNat_ofNat', show b.toNat % 2 ^ 8 = b.toNat from by omega]
  unfold lowI
  split
  · rw [if_pos (by omega)]; omega
  · rw [if_neg (by omega)]; omega

theorem walk_ClassBytes (b : Int) (w : World) (hw : (Lit.int .u8 b).wf = true) :
    Calls Try.prog 3 #[.int .u8 b] w fun e w' => e = .returned (.bool true) ∧ Below w.heap.size w w' := by
  have hbd : 0 ≤ b ∧ b ≤ 255 := by simpa [Lit.wf, IntKind.min, IntKind.max, IntKind.signed, IntKind.bits] using hw
  obtain ⟨h0, h1⟩ := hbd
  have hcv := fun (w : World) => run_string_of_byte (P := Try.prog) 23 9 5 Try.underlying23 Try.underlying5 Try.underlying9 b h0 (by omega) w
  by_cases hc : 65 ≤ b ∧ b ≤ 90
  · obtain ⟨hc1, hc2⟩ := hc
    have hm : ∀ m, m = lowI b → m = b + 32 := fun m h => by rw [h, lowI, if_pos ⟨hc1, hc2⟩]
    have HM := Lib.hid hm
    have hcl := clsN_low b
    rw [lowI, if_pos ⟨hc1, hc2⟩] at hcl
    have ht : (clsN (b + 32) == clsN b) = true := by rw [hcl]; simp
    have ht' : (clsN (b + 32) != clsN b) = false := by rw [hcl]; simp
    clear hm hcl
    go_enter Try.func3, Try.ntmps3
    go_wp2_with (first
      | (go_at_call 11; refine (lower_byte _ _ h0 (by omega)).mono ?_; rintro e w1 ⟨r, m, rfl, hr, hr0, hm, hb⟩; obtain rfl := HM.out m hm; clear hm)
      | (go_at_call 12; refine (of_any _ _ (by omega) (by omega)).mono ?_; rintro e w' ⟨rfl, rfl⟩)
      | (go_at_call 13; refine (cls_any _ _ (by omega) (by omega)).mono ?_; rintro e w' ⟨rfl, rfl⟩)
      | (go_at_call 14; refine (known_any _).mono ?_; rintro e w' ⟨rfl, hb'⟩))
    go_ret
    refine ⟨ret_bool (by simp; omega), ?_⟩
    have hz := hb.size
    simp at hz
    exact (((Below.refl _ _).alloc (Nat.le_refl _) _).trans (hb.mono (by simp))).trans (hb'.mono (by omega))
  · have hm : ∀ m, m = lowI b → m = b := fun m h => by rw [h, lowI, if_neg hc]
    have HM := Lib.hid hm
    have ht : (clsN b == clsN b) = true := by simp
    have ht' : (clsN b != clsN b) = false := by simp
    clear hm
    have HC := Lib.hid hc
    clear hc
    go_enter Try.func3, Try.ntmps3
    go_wp2_with (first
      | (go_at_call 11; refine (lower_byte _ _ h0 (by omega)).mono ?_; rintro e w1 ⟨r, m, rfl, hr, hr0, hm, hb⟩; obtain rfl := HM.out m hm; clear hm)
      | (go_at_call 12; refine (of_any _ _ (by omega) (by omega)).mono ?_; rintro e w' ⟨rfl, rfl⟩)
      | (go_at_call 13; refine (cls_any _ _ (by omega) (by omega)).mono ?_; rintro e w' ⟨rfl, rfl⟩)
      | (go_at_call 14; refine (known_any _).mono ?_; rintro e w' ⟨rfl, hb'⟩))
    all_goals first
      | exact absurd ⟨by omega, by omega⟩ HC.out
      | (go_ret
         refine ⟨ret_bool (by simp; try omega), ?_⟩
         have hz := hb.size
         simp at hz
         exact (((Below.refl _ _).alloc (Nat.le_refl _) _).trans (hb.mono (by simp))).trans (hb'.mono (by omega)))

end Go.Proofs.Ytkjinepemcehnaa
