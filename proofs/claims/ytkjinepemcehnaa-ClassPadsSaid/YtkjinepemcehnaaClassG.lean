/-
  Contracts for chapter 1: the statements' own helpers.
-/
import Derived.Test.YtkjinepemcehnaaClassC
import Derived.Test.YtkjinepemcehnaaClassD
namespace Go.Proofs.Ytkjinepemcehnaa
open Go.RowKit

def Spaces (b : ByteArray) : Prop := b.size ≤ 9 ∧ ∀ c ∈ b.data.toList, clsN (c.toNat : Int) = 2

theorem Spaces.snoc {b : ByteArray} {x : Int} (h : Spaces b) (hb : b.size ≤ 8) (hx : x = 9 ∨ x = 10 ∨ x = 13 ∨ x = 32) : Spaces (b ++ ⟨#[UInt8.ofNat x.toNat]⟩) := by
  refine ⟨by rw [size_append]; show b.size + 1 ≤ 9; omega, fun c hc => ?_⟩
  rw [data_append] at hc
  rcases List.mem_append.1 hc with hc | hc
  · exact h.2 c hc
  · have hc' : c = UInt8.ofNat x.toNat := by simpa using hc
    subst hc'
    rcases hx with rfl | rfl | rfl | rfl <;> rfl

set_option maxHeartbeats 1000000 in
theorem spaces_any (n : Int) (w : World) :
    Calls Try.prog 22 #[.int .i64 n] w fun e w' => ∃ b, Spaces b ∧ e = .returned (.string b) ∧ Below w.heap.size w w' := by
  have i0 : ∀ w, (Instr.index 39 (.agg #[.int .u8 9, .int .u8 10, .int .u8 13, .int .u8 32]) (.int .i64 0)).run Try.prog w = .ok (.int .u8 9) w := fun _ => by kernel_rfl
  have i1 : ∀ w, (Instr.index 39 (.agg #[.int .u8 9, .int .u8 10, .int .u8 13, .int .u8 32]) (.int .i64 1)).run Try.prog w = .ok (.int .u8 10) w := fun _ => by kernel_rfl
  have i2 : ∀ w, (Instr.index 39 (.agg #[.int .u8 9, .int .u8 10, .int .u8 13, .int .u8 32]) (.int .i64 2)).run Try.prog w = .ok (.int .u8 13) w := fun _ => by kernel_rfl
  have i3 : ∀ w, (Instr.index 39 (.agg #[.int .u8 9, .int .u8 10, .int .u8 13, .int .u8 32]) (.int .i64 3)).run Try.prog w = .ok (.int .u8 32) w := fun _ => by kernel_rfl
  have hcv := fun (w : World) (x : Int) (h0 : 0 ≤ x) (h1 : x < 256) => run_string_of_byte (P := Try.prog) 23 9 5 Try.underlying23 Try.underlying5 Try.underlying9 x h0 h1 w
  go_enter Try.func22, Try.ntmps22
  go_wp2
  obtain ⟨k0, hk0, hk0e⟩ := uint_rem n 10 (by omega) (by omega)
  go_loopw [3, 4] (fun s i wr => ∃ (b : ByteArray) (k : Nat), s = .string b ∧ i = .int .i64 k ∧ k ≤ 9 ∧ Hid (Spaces b) ∧ b.size + k ≤ 9 ∧ Below w.heap.size w wr) (fun _ i _ => (intOf i).toNat)
  case atStart => exact ⟨⟨#[]⟩, k0, rfl, by rw [← hk0e]; rfl, by omega, ⟨by decide, fun c hc => by simp at hc⟩, by show 0 + k0 ≤ 9; omega, Below.refl _ _⟩
  case round =>
    obtain ⟨b, k, rfl, rfl, hk, HS, hbk, hb⟩ := hrel
    clear hk0e hk0
    have hsize := hb.size
    by_cases h0 : 0 < k
    · rcases (show k = 1 ∨ k = 2 ∨ k = 3 ∨ k = 4 ∨ k = 5 ∨ k = 6 ∨ k = 7 ∨ k = 8 ∨ k = 9 from by omega) with rfl | rfl | rfl | rfl | rfl | rfl | rfl | rfl | rfl
      · go_wp2
        exact ⟨⟨_, 0, rfl, rfl, by omega, HS.out.snoc (x := 10) (by omega) (by omega), by rw [size_append]; show b.size + 1 + 0 ≤ 9; omega, hb.alloc hsize _⟩, by simp [intOf]; try omega⟩
      · go_wp2
        exact ⟨⟨_, 1, rfl, rfl, by omega, HS.out.snoc (x := 13) (by omega) (by omega), by rw [size_append]; show b.size + 1 + 1 ≤ 9; omega, hb.alloc hsize _⟩, by simp [intOf]; try omega⟩
      · go_wp2
        exact ⟨⟨_, 2, rfl, rfl, by omega, HS.out.snoc (x := 32) (by omega) (by omega), by rw [size_append]; show b.size + 1 + 2 ≤ 9; omega, hb.alloc hsize _⟩, by simp [intOf]; try omega⟩
      · go_wp2
        exact ⟨⟨_, 3, rfl, rfl, by omega, HS.out.snoc (x := 9) (by omega) (by omega), by rw [size_append]; show b.size + 1 + 3 ≤ 9; omega, hb.alloc hsize _⟩, by simp [intOf]; try omega⟩
      · go_wp2
        exact ⟨⟨_, 4, rfl, rfl, by omega, HS.out.snoc (x := 10) (by omega) (by omega), by rw [size_append]; show b.size + 1 + 4 ≤ 9; omega, hb.alloc hsize _⟩, by simp [intOf]; try omega⟩
      · go_wp2
        exact ⟨⟨_, 5, rfl, rfl, by omega, HS.out.snoc (x := 13) (by omega) (by omega), by rw [size_append]; show b.size + 1 + 5 ≤ 9; omega, hb.alloc hsize _⟩, by simp [intOf]; try omega⟩
      · go_wp2
        exact ⟨⟨_, 6, rfl, rfl, by omega, HS.out.snoc (x := 32) (by omega) (by omega), by rw [size_append]; show b.size + 1 + 6 ≤ 9; omega, hb.alloc hsize _⟩, by simp [intOf]; try omega⟩
      · go_wp2
        exact ⟨⟨_, 7, rfl, rfl, by omega, HS.out.snoc (x := 9) (by omega) (by omega), by rw [size_append]; show b.size + 1 + 7 ≤ 9; omega, hb.alloc hsize _⟩, by simp [intOf]; try omega⟩
      · go_wp2
        exact ⟨⟨_, 8, rfl, rfl, by omega, HS.out.snoc (x := 10) (by omega) (by omega), by rw [size_append]; show b.size + 1 + 8 ≤ 9; omega, hb.alloc hsize _⟩, by simp [intOf]; try omega⟩
    · obtain rfl : k = 0 := by omega
      go_wp2
      go_ret
      exact ⟨b, HS.out, rfl, hb⟩

theorem known_any (w : World) : Calls Try.prog 14 #[] w fun e w' => e = .returned (.bool true) ∧ Below w.heap.size w w' := by
  have e1 : (clsN 45 == 5) = true := by decide
  have e2 : (clsN 200 == 4) = true := by decide
  have e3 : lowL [65, 98] = [97, 98] := by decide
  go_enter Try.func14, Try.ntmps14
  go_wp2_with (first
    | (go_at_call 12; refine (of_any _ _ (by omega) (by omega)).mono ?_; rintro e w' ⟨rfl, rfl⟩)
    | (go_at_call 11; refine (lower_any _ _ (by decide)).mono ?_; rintro e w' ⟨rfl, hb⟩)
    | (go_at_call 16; refine (isname_any _ _ (by decide)).mono ?_; rintro e w' ⟨rfl, rfl⟩))
  go_ret
  exact ⟨ret_bool (by decide), hb⟩

end Go.Proofs.Ytkjinepemcehnaa
