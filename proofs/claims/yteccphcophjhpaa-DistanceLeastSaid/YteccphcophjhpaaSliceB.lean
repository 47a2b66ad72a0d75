
/-
  A part of a slice of tokens, both bounds given, as one equation.
-/
import Derived.Test.YteccphcophjhpaaSlice
namespace Go.Proofs.Yteccphcophjhpaa
open Go.RowKit

theorem rd_from {w : World} {A : Option Addr} {n c : Nat} {l : List Tk} (h : RdT w (.slice A n c) l) (k : Nat) (hk : k ≤ l.length) :
    RdT w (.slice (if c = k then A else A.map (·.add (k * 3))) (l.length - k) (c - k)) (l.drop k) := by
  obtain ⟨hn, rfl, hc⟩ := rd_addr h
  rcases A with _ | ⟨b, o, sp⟩
  · have hc0 := hn rfl
    have h0 : l = [] := List.eq_nil_of_length_eq_zero (by omega)
    subst h0
    obtain rfl : k = 0 := by simpa using hk
    subst hc0
    exact RdE.nil
  · have hsp : l.length = 0 ∨ sp = none := by
      rcases Nat.eq_zero_or_pos l.length with h0 | h0
      · exact .inl h0
      · obtain ⟨b', o', hA, _⟩ := RdE.cells h h0
        injection hA with hA
        injection hA with _ _ h3
        exact .inr h3
    rcases hsp with h0 | rfl
    · obtain rfl : k = 0 := by omega
      have hl : l = [] := List.eq_nil_of_length_eq_zero h0
      subst hl
      refine ⟨_, _, rfl, by simp, fun e => ?_, fun h1 => by simp at h1⟩
      split at e
      · rename_i h2; omega
      · cases e
    · refine h.drop k hk _ (fun h1 => ?_) (fun e => ?_)
      · rw [if_neg (by omega)]
        simp [Addr.add]
      · split at e <;> cases e
/-- l[lo:hi]. -/
theorem sl_both {w : World} {A : Option Addr} {n c : Nat} {l : List Tk} (h : RdT w (.slice A n c) l) (lo hi : Nat) (h1 : lo ≤ hi) (h2 : hi ≤ l.length) :
    ∃ (B : Option Addr) (d : Nat), Hid (RdT w (.slice B ((l.take hi).drop lo).length d) ((l.take hi).drop lo)) ∧ Hid (∀ W : World, (Instr.slice 26 (.slice A l.length c) (some (.int .i64 (lo : Int))) (some (.int .i64 (hi : Int))) none).run Try.prog W = .ok (.slice B ((l.take hi).drop lo).length d) W) := by
  obtain ⟨hn, rfl, hc⟩ := rd_addr h
  have hl : (l.take hi).length = hi := by rw [List.length_take]; omega
  have hd : ((l.take hi).drop lo).length = hi - lo := by rw [List.length_drop, hl]
  have hr := rd_from (h.take hi h2) lo (by rw [hl]; exact h1)
  rw [hl] at hr
  refine ⟨if c = lo then A else A.map (·.add (lo * 3)), c - lo, by rw [hd]; exact hr, fun W => ?_⟩
  rw [run_slice_lh _ _ _ _ _ tok_elem .i64 .i64 (lo : Int) (hi : Int) (by omega) (by omega) (by omega), tok_sizeOf, hd]
  simp [Result.andThen, sliced]

end Go.Proofs.Yteccphcophjhpaa
