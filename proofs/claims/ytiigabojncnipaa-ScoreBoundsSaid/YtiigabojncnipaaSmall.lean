
/-
  Which lists of tokens are short.
-/
import Derived.Test.YtiigabojncnipaaLaw11B
import Derived.Test.YtiigabojncnipaaSurB
namespace Go.Proofs.Ytiigabojncnipaa
open Go.RowKit

theorem TkInS.toD {x : Tk} (h : TkInS x) : TkD x := ⟨h.1.1, h.1.2.1⟩

theorem small13_sum (f : List Tk) (n : Nat) (v : Value) (w : World) (h : RdT w v f) (hin : ∀ x ∈ f, TkInS x) (hl : f.length ≤ n) (hn : n ≤ 40) (b : Bool) (hb : b = decide (bytesOf f ≤ 300)) :
    Calls Try.prog 9 #[v, .int .i64 n] w fun e w' => e = .returned (.bool b) ∧ w = w' := by
  obtain ⟨A, c, rfl, _, _⟩ := h.shape
  have HR := Lib.hid h
  have HI := Lib.hid hin
  have HB := Lib.hid hb
  clear h hin hb
  go_enter Try.func9, Try.ntmps9
  go_wp2_with fail
  go_loop [5, 9] (fun nv i => ∃ k : Nat, k ≤ f.length ∧ i = .int .i64 k ∧ nv = .int .i64 (bytesOf (f.take k) : Nat)) (fun _ i => f.length - (intOf i).toNat)
  case atStart => exact ⟨0, by omega, rfl, rfl⟩
  case round =>
    obtain ⟨k, hk, rfl, rfl⟩ := hrel
    have hs := sum_few f k hk HI.out
    by_cases hlt : k < f.length
    · obtain ⟨b', o, rfl, hbl, q1, q2, q3⟩ := RdT.at_ HR.out k hlt
      have hx := (HI.out f[k] (List.getElem_mem hlt)).2
      have HS := Lib.hid (bytesOf_step f k hlt)
      generalize f[k] = x at q1 q2 q3 hx HS
      generalize bytesOf (f.take k) = m at hs HS
      clear q1 q3
      go_wp2_with fail
      go_round
      case rel => exact ⟨k + 1, by omega, by go_num, by rw [HS.out]; go_num⟩
      case measure => simp [intOf]; omega
    · obtain rfl : k = f.length := by omega
      rw [List.take_length] at hs ⊢
      have h40 : decide ((f.length : Int) ≤ (n : Int)) = true := by simp; omega
      by_cases hq : bytesOf f ≤ 300
      · have ht : b = true := by rw [HB.out]; simp [hq]
        subst ht
        go_wp2_with fail
        go_ret
        exact ⟨ret_bool (by simp; omega), rfl⟩
      · have ht : b = false := by rw [HB.out]; simp [hq]
        subst ht
        go_wp2_with fail
        go_ret
        exact ⟨ret_bool (by simp; omega), rfl⟩
theorem small13_long (f : List Tk) (n : Nat) (v : Value) (w : World) (h : RdT w v f) (hm : f.length ≤ 9223372036854775807) (hl : n < f.length) :
    Calls Try.prog 9 #[v, .int .i64 n] w fun e w' => e = .returned (.bool false) ∧ w = w' := by
  obtain ⟨A, c, rfl, _, _⟩ := h.shape
  have HR := Lib.hid h
  clear h
  go_enter Try.func9, Try.ntmps9
  go_wp2_with fail
  go_loop [5, 9] (fun nv i => ∃ (k : Nat) (z : Int), k ≤ f.length ∧ i = .int .i64 k ∧ nv = .int .i64 z) (fun _ i => f.length - (intOf i).toNat)
  case atStart => exact ⟨0, 0, by omega, rfl, rfl⟩
  case round =>
    obtain ⟨k, z, hk, rfl, rfl⟩ := hrel
    by_cases hlt : k < f.length
    · obtain ⟨b', o, rfl, hbl, q1, q2, q3⟩ := RdT.at_ HR.out k hlt
      generalize f[k] = x at q1 q2 q3
      clear q1 q3
      go_wp2_with fail
      go_round
      case rel => exact ⟨k + 1, _, by omega, by go_num, rfl⟩
      case measure => simp [intOf]; omega
    · obtain rfl : k = f.length := by omega
      have h40 : decide ((f.length : Int) ≤ (n : Int)) = false := by simp; omega
      go_wp2_with fail
      go_ret
      exact ⟨ret_bool (by simp; try omega), rfl⟩
theorem small13_yes (f : List Tk) (n : Nat) (v : Value) (w : World) (h : RdT w v f) (hin : ∀ x ∈ f, TkInS x) (hn : n ≤ 40) (hl : f.length ≤ n ∧ bytesOf f ≤ 300) :
    Calls Try.prog 9 #[v, .int .i64 n] w fun e w' => e = .returned (.bool true) ∧ w = w' := small13_sum f n v w h hin hl.1 hn true (by simp [hl.2])
theorem small13_no (f : List Tk) (n : Nat) (v : Value) (w : World) (h : RdT w v f) (hm : f.length ≤ 9223372036854775807) (hin : ∀ x ∈ f, TkInS x) (hn : n ≤ 40) (hb : ¬ (f.length ≤ n ∧ bytesOf f ≤ 300)) :
    Calls Try.prog 9 #[v, .int .i64 n] w fun e w' => e = .returned (.bool false) ∧ w = w' := by
  by_cases hl : f.length ≤ n
  · exact small13_sum f n v w h hin hl hn false (by simp; omega)
  · exact small13_long f n v w h hm (by omega)

end Go.Proofs.Ytiigabojncnipaa
