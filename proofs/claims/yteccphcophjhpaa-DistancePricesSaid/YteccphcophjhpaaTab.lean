
/-
  A table of numbers under way: one block of slices, one block of numbers a row.
-/
import Derived.Test.YteccphcophjhpaaMathAlign
import Derived.Test.YteccphcophjhpaaDistA
import Derived.Test.YteccphcophjhpaaMemB
import Derived.Deep.OwnRows
import Derived.Deep.DeepCutAuto
namespace Go.Proofs.Yteccphcophjhpaa
open Go.RowKit

theorem int_info' : (Try.prog.info? 3).map (fun i => (i.zero, i.size, i.bytes)) = some (some (.int .i64 0), 1, 8) := by kernel_rfl
theorem ints_info : (Try.prog.info? 24).map (fun i => (i.zero, i.size, i.bytes)) = some (some (.slice none 0 0), 1, 24) := by kernel_rfl

/-- Block G holds n slices; the rows from lo on are laid, row j in block g j, m numbers each. -/
structure Tab (w : World) (B G : Nat) (g : Nat → Nat) (n m lo : Nat) (F : Nat → Nat → Int) : Prop where
  outer : w.rowIs G 24 n (fun j => if lo ≤ j then .slice (some ⟨g j, 0, none⟩) m m else .slice none 0 0)
  rows : ∀ j, lo ≤ j → j < n → w.rowIs (g j) 3 m (fun k => .int .i64 (F j k))
  bG : B ≤ G
  bg : ∀ j, lo ≤ j → j < n → B ≤ g j ∧ g j ≠ G
  inj : ∀ j j', lo ≤ j → j < n → lo ≤ j' → j' < n → j ≠ j' → g j ≠ g j'

section
variable {w w' : World} {B G : Nat} {g : Nat → Nat} {n m lo : Nat} {F : Nat → Nat → Int}
theorem Tab.congr {F' : Nat → Nat → Int} (h : Tab w B G g n m lo F) (e : ∀ j k, lo ≤ j → j < n → k < m → F j k = F' j k) : Tab w B G g n m lo F' :=
  ⟨h.outer, fun j h1 h2 => (h.rows j h1 h2).congr fun k hk => by rw [e j k h1 h2 hk], h.bG, h.bg, h.inj⟩
theorem Tab.blocks (h : Tab w B G g n m lo F) (hk : ∀ k, B ≤ k → k < w.heap.size → w'.heap[k]? = w.heap[k]?) : Tab w' B G g n m lo F :=
  ⟨h.outer.of_block (hk G h.bG h.outer.lt), fun j h1 h2 => (h.rows j h1 h2).of_block (hk _ (h.bg j h1 h2).1 (h.rows j h1 h2).lt), h.bG, h.bg, h.inj⟩
theorem Tab.below (h : Tab w B G g n m lo F) (hb : Below w.heap.size w w') : Tab w' B G g n m lo F := h.blocks fun k _ hk => hb.block k hk
theorem Tab.alloc (h : Tab w B G g n m lo F) (o : Obj) : Tab (w.alloc o) B G g n m lo F := h.blocks fun k _ hk => Below.heap_alloc w o k hk
theorem Tab.drewN (h : Tab w B G g n m lo F) (k : Nat) : Tab (w.drewN k) B G g n m lo F := h.blocks fun _ _ _ => rfl
theorem Tab.start (h : w.rowIs G 24 n (fun _ => .slice none 0 0)) (hB : B ≤ G) : Tab w B G g n m n F :=
  ⟨h.congr fun j hj => by rw [if_neg (by omega)], fun j h1 h2 => by omega, hB, fun j h1 h2 => by omega, fun j j' h1 h2 => by omega⟩
/-- A new row, all zeros. -/
theorem Tab.push {i : Nat} (h : Tab w B G g n m (i + 1) F) (hi : i < n) (hB : B ≤ w.heap.size) :
    Tab ((w.alloc (.cells (madeCells #[.int .i64 0] m) 3)).setCell ⟨G, i, none⟩ (.slice (some ⟨w.heap.size, 0, none⟩) m m)) B G (fun j => if j = i then w.heap.size else g j) n m i (fun j k => if j = i then 0 else F j k) := by
  have hG : G < w.heap.size := h.outer.lt
  refine ⟨((h.outer.alloc _).set i _).congr fun j hj => ?_, fun j h1 h2 => ?_, h.bG, fun j h1 h2 => ?_, fun j j' h1 h2 h3 h4 hn => ?_⟩
  · by_cases hji : j = i
    · subst hji
      rw [if_pos rfl, if_pos (Nat.le_refl _), if_pos rfl]
    · rw [if_neg hji, if_neg hji]
      by_cases hl : i ≤ j
      · rw [if_pos (by omega), if_pos hl]
      · rw [if_neg (by omega), if_neg hl]
  · by_cases hji : j = i
    · subst hji
      simp only [if_true]
      exact ((World.rowIs_made w (.int .i64 0) m 3).setOther (show w.heap.size ≠ G by omega) _)
    · simp only [if_neg hji]
      exact ((h.rows j (by omega) h2).alloc _).setOther (h.bg j (by omega) h2).2 _
  · by_cases hji : j = i
    · simp only [if_pos hji]; omega
    · simp only [if_neg hji]; exact h.bg j (by omega) h2
  · have hlt : ∀ j, i ≤ j → j < n → j ≠ i → g j < w.heap.size := fun j h1 h2 h3 => (h.rows j (by omega) h2).lt
    by_cases h5 : j = i
    · have h6 : j' ≠ i := by omega
      simp only [if_pos h5, if_neg h6]
      have := hlt j' h3 h4 h6
      omega
    · by_cases h6 : j' = i
      · simp only [if_neg h5, if_pos h6]
        have := hlt j h1 h2 h5
        omega
      · simp only [if_neg h5, if_neg h6]
        exact h.inj j j' (by omega) h2 (by omega) h4 hn
theorem Tab.set (h : Tab w B G g n m lo F) (i k : Nat) (hi : lo ≤ i) (hn : i < n) (z : Int) : Tab (w.setCell ⟨g i, k, none⟩ (.int .i64 z)) B G g n m lo (fun j k' => if j = i ∧ k' = k then z else F j k') := by
  refine ⟨h.outer.setOther (fun e => (h.bg i hi hn).2 e.symm) _, fun j h1 h2 => ?_, h.bG, h.bg, h.inj⟩
  by_cases hji : j = i
  · subst hji
    refine ((h.rows j h1 h2).set k _).congr fun k' _ => ?_
    by_cases hk : k' = k
    · rw [if_pos hk, if_pos ⟨rfl, hk⟩]
    · rw [if_neg hk, if_neg (fun e => hk e.2)]
  · refine ((h.rows j h1 h2).setOther (h.inj j i h1 h2 hi hn hji) _).congr fun k' _ => ?_
    rw [if_neg (fun e => hji e.1)]
theorem Tab.out (h : Tab w B G g n m lo F) (j : Nat) (h1 : lo ≤ j) (h2 : j < n) : w.cell? ⟨G, j, none⟩ = some (.slice (some ⟨g j, 0, none⟩) m m) := by
  have := h.outer.cell h2
  rw [if_pos h1] at this
  exact this
theorem Tab.cell (h : Tab w B G g n m lo F) (j k : Nat) (h1 : lo ≤ j) (h2 : j < n) (h3 : k < m) : w.cell? ⟨g j, k, none⟩ = some (.int .i64 (F j k)) := (h.rows j h1 h2).cell h3
theorem Tab.free (h : Tab w B G g n m lo F) (j k : Nat) (h1 : lo ≤ j) (h2 : j < n) : w.frozen? ⟨g j, k, none⟩ = false := (h.rows j h1 h2).frozen k
theorem Tab.lt (h : Tab w B G g n m lo F) (j : Nat) (h1 : lo ≤ j) (h2 : j < n) : g j < w.heap.size := (h.rows j h1 h2).lt
theorem Tab.belowSet {W : World} (h : Tab w B G g n m lo F) (hb : Below B W w) (i k : Nat) (hi : lo ≤ i) (hn : i < n) (v : Value) : Below B W (w.setCell ⟨g i, k, none⟩ v) := hb.setCell (p := ⟨g i, k, none⟩) (h.bg i hi hn).1 v
end

/-- The table so far: in row i the columns below q are still 0. -/
def cutT (F : Nat → Nat → Int) (i q : Nat) (j k : Nat) : Int := if j = i ∧ k < q then 0 else F j k
/-- A call that has made a table. -/
def TabRet (n m : Nat) (F : Nat → Nat → Int) (w : World) (e : Ending) (w' : World) : Prop :=
  ∃ G g, e = .returned (.slice (some ⟨G, 0, none⟩) n n) ∧ Tab w' w.heap.size G g n m 0 F ∧ Below w.heap.size w w'

end Go.Proofs.Yteccphcophjhpaa
