
/-
  Chapter 12: the fixed example.
-/
import Derived.Test.YtiigabojncnipaaLaw12A
namespace Go.Proofs.Ytiigabojncnipaa
open Go.RowKit

theorem RdT.two_at (w : World) (g : Nat) (hg : w.heap.size = g) (x y : Tk) (t : TypeId) : RdT (w.alloc (.cells #[.int .i64 x.k, .string x.t, .int .i64 x.d, .int .i64 y.k, .string y.t, .int .i64 y.d] t)) (.slice (some ⟨g, 0, none⟩) 2 2) [x, y] := by
  subst hg
  refine ⟨some ⟨w.heap.size, 0, none⟩, 2, rfl, by simp, (fun h => by cases h), fun _ => ⟨w.heap.size, 0, rfl, by simp, fun i z j u hi hj => ?_⟩⟩
  have hi2 : i < 2 := by
    have := (List.getElem?_eq_some_iff.1 hi).1
    simpa using this
  have hj3 : j < 3 := (List.getElem?_eq_some_iff.1 hj).1
  have hb : (w.alloc (.cells #[.int .i64 x.k, .string x.t, .int .i64 x.d, .int .i64 y.k, .string y.t, .int .i64 y.d] t)).heap[w.heap.size]? = some (.cells #[.int .i64 x.k, .string x.t, .int .i64 x.d, .int .i64 y.k, .string y.t, .int .i64 y.d] t) := Array.getElem?_push_size
  rw [Nat.zero_add, cell_of_row _ _ _ _ _ _ hb]
  rcases (show i = 0 ∨ i = 1 by omega) with rfl | rfl
  · simp at hi
    subst hi
    rcases (show j = 0 ∨ j = 1 ∨ j = 2 by omega) with rfl | rfl | rfl <;> exact hj
  · simp at hi
    subst hi
    rcases (show j = 0 ∨ j = 1 ∨ j = 2 by omega) with rfl | rfl | rfl <;> exact hj

theorem td_small : (∀ x ∈ tA, TkD x) ∧ (∀ x ∈ tB, TkD x) ∧ TkD kT ∧ TkD kX := by
  refine ⟨fun x hx => ?_, fun x hx => ?_, ?_, ?_⟩
  · simp [tA] at hx
    rcases hx with rfl | rfl | rfl <;> exact ⟨by unfold maxLen; decide, by decide, by decide⟩
  · simp [tB] at hx
    rcases hx with rfl | rfl | rfl <;> exact ⟨by unfold maxLen; decide, by decide, by decide⟩
  · exact ⟨by unfold maxLen; decide, by decide, by decide⟩
  · exact ⟨by unfold maxLen; decide, by decide, by decide⟩

end Go.Proofs.Ytiigabojncnipaa
