
/-
  Tokens and items in memory.
-/
import Derived.Test.YtpboaadjbkaidaaDoorMath11
import Derived.Test.YtpboaadjbkaidaaDoorMem
import Derived.Test.YtpboaadjbkaidaaDoorChecked
import Derived.KernelRfl
namespace Go.Proofs.YtpboaadjbkaidaaDoor
set_option maxRecDepth 100000
open Go.RowKit

/-- A token as cells. -/
def tkC (x : Tk) : List Value := [.int .i64 x.k, .string x.t, .int .i64 x.d]
theorem tkC_three (x : Tk) : (tkC x).length = 3 := rfl
theorem tkC_one (x : Tk) : ∀ u ∈ tkC x, u.oneCell' = true := by
  intro u hu
  simp [tkC] at hu
  rcases hu with rfl | rfl | rfl <;> rfl
theorem item_info : (Tryd.prog.info? 84).map (fun i => (i.zero, i.size, i.bytes)) = some (some (.agg #[.int .i64 0, .string ⟨#[]⟩, .int .i64 0]), 3, 32) := by kernel_rfl

/-- A slice value that reads as a list of tokens (or items). -/
abbrev RdT (w : World) (v : Value) (l : List Tk) : Prop := RdE tkC 3 w v l
/-- A row of tokens (e: their type) of the call's own. -/
abbrev OwnT (e : TypeId) (w : World) (B : Nat) (v : Value) (l : List Tk) : Prop := OwnE e tkC 3 w B v l

/-- What a round of a loop over such a slice wants. -/
theorem RdT.at_ {w : World} {A : Option Addr} {n c : Nat} {l : List Tk} (h : RdT w (.slice A n c) l) (k : Nat) (hk : k < l.length) :
    ∃ b o, A = some ⟨b, o, none⟩ ∧ b < w.heap.size ∧ w.cell? ⟨b, o + k * 3, none⟩ = some (.int .i64 l[k].k) ∧ w.cell? ⟨b, o + k * 3 + 1, none⟩ = some (.string l[k].t) ∧ w.cell? ⟨b, o + k * 3 + 2, none⟩ = some (.int .i64 l[k].d) := by
  obtain ⟨b, o, hA, hb, hx⟩ := RdE.cells h (by omega)
  have hi : l[k]? = some l[k] := List.getElem?_eq_getElem hk
  exact ⟨b, o, hA, hb, hx k _ 0 _ hi rfl, hx k _ 1 _ hi rfl, hx k _ 2 _ hi rfl⟩

/-- The bytes of a string in a slot. -/
def strLen : Value → Nat | .string s => s.size | _ => 0

end Go.Proofs.YtpboaadjbkaidaaDoor
