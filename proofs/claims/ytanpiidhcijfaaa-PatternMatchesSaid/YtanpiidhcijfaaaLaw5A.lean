
/-
  The helpers of the statements of chapter 5.
-/
import Derived.Test.YtanpiidhcijfaaaKnown5
import Derived.Test.YtanpiidhcijfaaaMakeA
import Derived.Test.YtanpiidhcijfaaaMakeB
namespace Go.Proofs.Ytanpiidhcijfaaa
open Go.RowKit

/-- A call that returns some string of at most m bytes. -/
def RetUp (w : World) (m : Nat) (e : Ending) (w' : World) : Prop := ∃ u : ByteArray, u.size ≤ m ∧ e = .returned (.string u) ∧ Below w.heap.size w w'
def wrdW : List ByteArray := [⟨#[97]⟩, ⟨#[98]⟩, ⟨#[122]⟩, ⟨#[45]⟩, ⟨#[91]⟩, ⟨#[93]⟩, ⟨#[94]⟩, ⟨#[92]⟩, ⟨#[92, 100]⟩, ⟨#[92, 76]⟩, ⟨#[92, 117]⟩, ⟨#[46]⟩, ⟨#[42]⟩, ⟨#[43]⟩, ⟨#[63]⟩, ⟨#[40]⟩, ⟨#[49]⟩, ⟨#[32]⟩, ⟨#[92, 93]⟩, ⟨#[91, 97, 45, 122, 93]⟩, ⟨#[91, 94, 92, 115, 93]⟩, ⟨#[33]⟩]
theorem wrd_size : ∀ u ∈ wrdW, u.size ≤ 5 := by decide
theorem wrd_at (w : World) (z : Int) (h0 : 0 ≤ z) (hz : z < 22) : ∃ word : ByteArray, word.size ≤ 5 ∧ (w.alloc (.cells #[.string ⟨#[97]⟩, .string ⟨#[98]⟩, .string ⟨#[122]⟩, .string ⟨#[45]⟩, .string ⟨#[91]⟩, .string ⟨#[93]⟩, .string ⟨#[94]⟩, .string ⟨#[92]⟩, .string ⟨#[92, 100]⟩, .string ⟨#[92, 76]⟩, .string ⟨#[92, 117]⟩, .string ⟨#[46]⟩, .string ⟨#[42]⟩, .string ⟨#[43]⟩, .string ⟨#[63]⟩, .string ⟨#[40]⟩, .string ⟨#[49]⟩, .string ⟨#[32]⟩, .string ⟨#[92, 93]⟩, .string ⟨#[91, 97, 45, 122, 93]⟩, .string ⟨#[91, 94, 92, 115, 93]⟩, .string ⟨#[33]⟩] 9)).cell? ⟨w.heap.size, z.toNat, none⟩ = some (.string word) := by
  have hl : z.toNat < wrdW.length := by show z.toNat < 22; omega
  refine ⟨wrdW.getD z.toNat ⟨#[]⟩, ?_, cells_strs w w.heap.size rfl wrdW 9 z.toNat hl⟩
  rw [List.getD_eq_getElem?_getD, List.getElem?_eq_getElem hl]
  exact wrd_size _ (List.getElem_mem _)

set_option maxRecDepth 100000 in
set_option maxHeartbeats 4000000 in
theorem writ_any (A : Option Addr) (c : Nat) (l : List Int) (w : World) (hr : RdE intC 1 w (.slice A l.length c) l) (hin : ∀ x ∈ l, IntIn x) (hl : l.length ≤ 9223372036854775807) :
    Calls Try.prog 13 #[.slice A l.length c] w (RetUp w 200) := by
  obtain ⟨R, HRR⟩ : ∃ R, Hid (R = RetUp w 200) := ⟨_, rfl⟩
  rw [← HRR.out]
  have HR := Lib.hid hr
  have HI := Lib.hid hin
  clear hr hin
  go_enter Try.func13, Try.ntmps13
  go_wp2_with fail
  go_loopg [3, 4] 40 (fun n sv iv wr => ∃ (u : ByteArray) (k : Nat), sv = .string u ∧ iv = .int .i64 k ∧ k ≤ 40 ∧ k ≤ l.length ∧ u.size ≤ 5 * k ∧ Hid (Below w.heap.size w wr) ∧ 40 - k ≤ n)
  case atStart => exact ⟨_, 0, rfl, rfl, by omega, by omega, by decide, Below.refl _ _, by omega⟩
  case round =>
    obtain ⟨u, k, rfl, rfl, hk, hkl, hu, HB, hgk⟩ := hrel
    by_cases hlt : k < l.length
    · have hlti : (k : Int) < (l.length : Int) := by omega
      by_cases h40 : k < 40
      · have h40i : (k : Int) < 40 := by omega
        obtain ⟨b, o, rfl, hbl, hcell⟩ := HR.out.cells (by omega)
        have q0 := (HB.out.cell (p := ⟨b, o + (k * 1 + 0), none⟩) hbl).trans (hcell k l[k] 0 _ (List.getElem?_eq_getElem hlt) rfl)
        rw [show o + (k * 1 + 0) = o + k by omega] at q0
        have hx := HI.out l[k] (List.getElem_mem _)
        generalize l[k] = x at q0 hx
        have HP := Lib.hid (fun w => place_any x 22 w hx (by decide) (by decide))
        have hz1 := Int.emod_nonneg x (show (22 : Int) ≠ 0 by decide)
        have hz2 := Int.emod_lt_of_pos x (show (0 : Int) < 22 by decide)
        generalize x % 22 = z at HP hz1 hz2
        obtain ⟨word, hw, q1⟩ := wrd_at wr z hz1 hz2
        have q0' : (wr.alloc (.cells #[.string ⟨#[97]⟩, .string ⟨#[98]⟩, .string ⟨#[122]⟩, .string ⟨#[45]⟩, .string ⟨#[91]⟩, .string ⟨#[93]⟩, .string ⟨#[94]⟩, .string ⟨#[92]⟩, .string ⟨#[92, 100]⟩, .string ⟨#[92, 76]⟩, .string ⟨#[92, 117]⟩, .string ⟨#[46]⟩, .string ⟨#[42]⟩, .string ⟨#[43]⟩, .string ⟨#[63]⟩, .string ⟨#[40]⟩, .string ⟨#[49]⟩, .string ⟨#[32]⟩, .string ⟨#[92, 93]⟩, .string ⟨#[91, 97, 45, 122, 93]⟩, .string ⟨#[91, 94, 92, 115, 93]⟩, .string ⟨#[33]⟩] 9)).cell? ⟨b, o + k, none⟩ = some (.int .i64 x) := by
          rw [← q0]
          exact Below.cell ((Below.refl _ wr).alloc (Nat.le_refl _) _) (p := ⟨b, o + k, none⟩) (Nat.lt_of_lt_of_le hbl HB.out.size)
        go_wp2_with (go_at_call 17; refine (HP.out _).mono ?_; rintro e w' ⟨rfl, rfl⟩)
        go_roundg (40 - (k + 1))
        case measure => omega
        case rel => exact ⟨u ++ word, k + 1, rfl, by go_num, by omega, by omega, by rw [size_append]; omega, HB.out.alloc HB.out.size _, Nat.le_refl _⟩
      · have h40i : ¬ (k : Int) < 40 := by omega
        go_wp2_with fail
        rw [HRR.out]
        exact ⟨u, by omega, rfl, HB.out⟩
    · have hlti : ¬ (k : Int) < (l.length : Int) := by omega
      go_wp2_with fail
      rw [HRR.out]
      exact ⟨u, by omega, rfl, HB.out⟩

end Go.Proofs.Ytanpiidhcijfaaa
