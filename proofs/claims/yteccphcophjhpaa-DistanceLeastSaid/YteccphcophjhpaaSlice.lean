
/-
  Parts of slices of tokens, as one equation each.
-/
import Derived.Test.YteccphcophjhpaaMemB
import Derived.Test.YteccphcophjhpaaTok
namespace Go.Proofs.Yteccphcophjhpaa
open Go.RowKit

theorem tok_elem : Try.prog.underlying 26 = some (.slice (Try.prog.elem 26)) := by kernel_rfl
theorem tok_sizeOf (W : World) : (sizeOf (Try.prog.elem 26)).run Try.prog W = .ok 3 W := by kernel_rfl
theorem rd_addr {α : Type} {f : α → List Value} {m : Nat} {w : World} {A : Option Addr} {n c : Nat} {l : List α} (h : RdE f m w (.slice A n c) l) : (A = none → c = 0) ∧ n = l.length ∧ l.length ≤ c := by
  obtain ⟨A', c', hv, hc, hn, _⟩ := h
  injection hv with h1 h2 h3
  subst h1 h2 h3
  exact ⟨hn, rfl, hc⟩
/-- l[k:]: a slice that reads as the rest. -/
theorem sl_from {w : World} {A : Option Addr} {n c : Nat} {l : List Tk} (h : RdT w (.slice A n c) l) (k : Nat) (hk : k ≤ l.length) :
    ∃ (B : Option Addr) (d : Nat), Hid (RdT w (.slice B (l.length - k) d) (l.drop k)) ∧ Hid (∀ W : World, (Instr.slice 26 (.slice A l.length c) (some (.int .i64 (k : Int))) none none).run Try.prog W = .ok (.slice B (l.length - k) d) W) := by
  obtain ⟨hn, rfl, hc⟩ := rd_addr h
  refine ⟨if c = k then A else A.map (·.add (k * 3)), c - k, ?_, fun W => ?_⟩
  · rcases A with _ | ⟨b, o, sp⟩
    · have hc0 := hn rfl
      have h0 : l = [] := List.eq_nil_of_length_eq_zero (by omega)
      subst h0
      obtain rfl : k = 0 := by simpa using hk
      subst hc0
      exact RdE.nil
    · have hsp : l.length = 0 ∨ sp = none := by
        rcases Nat.eq_zero_or_pos l.length with h0 | h0
        · exact .inl h0
        · obtain ⟨b', o', hA, _⟩ := RdE.cells h h0
          injection hA with hA
          injection hA with _ _ h3
          exact .inr h3
      rcases hsp with h0 | rfl
      · obtain rfl : k = 0 := by omega
        have hl : l = [] := List.eq_nil_of_length_eq_zero h0
        subst hl
        refine ⟨_, _, rfl, by simp, fun e => ?_, fun h1 => by simp at h1⟩
        split at e
        · rename_i h2; omega
        · cases e
      · refine h.drop k hk _ (fun h1 => ?_) (fun e => ?_)
        · rw [if_neg (by omega)]
          simp [Addr.add]
        · split at e <;> cases e
  · rw [run_slice_l _ _ _ _ _ tok_elem .i64 (k : Int) (by omega) (by omega), tok_sizeOf]
    simp [Result.andThen, sliced]
/-- l[:k]: a slice that reads as the head. -/
theorem sl_to {w : World} {A : Option Addr} {n c : Nat} {l : List Tk} (h : RdT w (.slice A n c) l) (k : Nat) (hk : k ≤ l.length) :
    Hid (RdT w (.slice A k c) (l.take k)) ∧ Hid (∀ W : World, (Instr.slice 26 (.slice A l.length c) none (some (.int .i64 (k : Int))) none).run Try.prog W = .ok (.slice A k c) W) := by
  obtain ⟨hn, rfl, hc⟩ := rd_addr h
  refine ⟨h.take k hk, fun W => ?_⟩
  rw [run_slice_h _ _ _ _ _ tok_elem .i64 (k : Int) (by omega) (by omega), tok_sizeOf]
  have e : (if c = 0 then A else A.map (·.add (0 * 3))) = A := by
    split
    · rfl
    · rcases A with _ | ⟨b, o, sp⟩ <;> simp [Addr.add]
  simp only [Result.andThen, sliced, Int.toNat_natCast, Nat.sub_zero, e]

end Go.Proofs.Yteccphcophjhpaa
