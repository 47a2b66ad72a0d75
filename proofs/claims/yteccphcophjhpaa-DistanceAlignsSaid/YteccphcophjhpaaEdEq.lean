
/-
  Two scripts that are the same are found to be the same.
-/
import Derived.Test.YteccphcophjhpaaMathEd
import Derived.Test.YteccphcophjhpaaBase
namespace Go.Proofs.Yteccphcophjhpaa
open Go.RowKit

set_option maxHeartbeats 1000000 in
theorem sameEd_yes (l : List Ed) (v u : Value) (w : World) (h1 : RdEd w v l) (h2 : RdEd w u l) (hl : l.length ≤ 1000000) :
    Calls Try.prog 27 #[v, u] w (QuietRet w (.bool true)) := by
  obtain ⟨A, c, rfl, _, _⟩ := h1.shape
  obtain ⟨A2, c2, rfl, _, _⟩ := h2.shape
  have H1 := Lib.hid h1
  have H2 := Lib.hid h2
  clear h1 h2
  go_enter Try.func27, Try.ntmps27
  go_wp2_with fail
  go_loopw [13] (fun i wr => ∃ k nq : Nat, k ≤ l.length ∧ i = .int .i64 k ∧ wr = w.drewN nq) (fun i _ => l.length - (intOf i).toNat)
  case atStart => exact ⟨0, 0, by omega, rfl, rfl⟩
  case round =>
    obtain ⟨k, nq, hk, rfl, rfl⟩ := hrel
    by_cases hkl : k < l.length
    · obtain ⟨b, o, rfl, hbl, q1, q2⟩ := RdEd.at_ H1.out k hkl
      obtain ⟨b2, o2, rfl, hbl2, r1, r2⟩ := RdEd.at_ H2.out k hkl
      generalize l[k] = x at q1 q2 r1 r2
      obtain ⟨xA, xB⟩ := x
      simp only at q1 q2 r1 r2
      go_wp2_with fail
      go_quiet (fail)
      go_wp2_with fail
      exact ⟨⟨k + 1, _, by omega, by go_num, rfl⟩, by simp [intOf]; try omega⟩
    · obtain rfl : k = l.length := by omega
      go_wp2_with fail
      go_ret
      exact ⟨rfl, nq, rfl⟩
theorem aln_len (a b : List Tk) : (alnL a b).length ≤ a.length + b.length := by
  have h : ∀ n i k, (alnF a b n i k).length ≤ n := by
    intro n
    induction n with
    | zero => intro i k; exact Nat.le_refl _
    | succ n ih =>
      intro i k
      rw [alnF]
      split
      · rw [List.length_cons]
        have := ih (alnS a b i k).2.1 (alnS a b i k).2.2
        omega
      · exact Nat.zero_le _
  exact h _ _ _

end Go.Proofs.Yteccphcophjhpaa
