
/-
  Edits in memory.
-/
import Derived.Test.YteccphcophjhpaaMathAlign
import Derived.Test.YteccphcophjhpaaMem
import Derived.Test.YteccphcophjhpaaChecked
import Derived.KernelRfl
namespace Go.Proofs.Yteccphcophjhpaa
open Go.RowKit

/-- An edit as cells. -/
def edC (x : Ed) : List Value := [.int .i64 x.A, .int .i64 x.B]
theorem edC_two (x : Ed) : (edC x).length = 2 := rfl
theorem edC_one (x : Ed) : ∀ u ∈ edC x, u.oneCell' = true := by
  intro u hu
  simp [edC] at hu
  rcases hu with rfl | rfl <;> rfl
theorem edit_info : (Try.prog.info? 43).map (fun i => (i.zero, i.size, i.bytes)) = some (some (.agg #[.int .i64 0, .int .i64 0]), 2, 16) := by kernel_rfl
abbrev RdEd (w : World) (v : Value) (l : List Ed) : Prop := RdE edC 2 w v l
theorem RdEd.at_ {w : World} {A : Option Addr} {n c : Nat} {l : List Ed} (h : RdEd w (.slice A n c) l) (k : Nat) (hk : k < l.length) :
    ∃ b o, A = some ⟨b, o, none⟩ ∧ b < w.heap.size ∧ w.cell? ⟨b, o + k * 2, none⟩ = some (.int .i64 l[k].A) ∧ w.cell? ⟨b, o + k * 2 + 1, none⟩ = some (.int .i64 l[k].B) := by
  obtain ⟨b, o, hA, hb, hx⟩ := RdE.cells h (by omega)
  have hi : l[k]? = some l[k] := List.getElem?_eq_getElem hk
  exact ⟨b, o, hA, hb, hx k _ 0 _ hi rfl, hx k _ 1 _ hi rfl⟩

end Go.Proofs.Yteccphcophjhpaa
