
/-
  The scanner: its block; small methods.
-/
import Derived.Test.YtpboaadjbkaidaaDoorMathScan
import Derived.Lib.Bytealg
import Derived.Lib.Walk
import Derived.BigQuiet
import Derived.Deep.QuietTactic
namespace Go.Proofs.YtpboaadjbkaidaaDoor
set_option maxRecDepth 100000
open Go.RowKit

set_option maxRecDepth 100000 in
set_option maxHeartbeats 1000000 in
theorem index_any (s : ByteArray) (b : Nat) (w : World) :
    Calls Tryd.prog 131 #[.string s, .int .u8 b] w fun e w' => e = .returned (.int .i64 (Lib.indexByte s.data.toList (b : Int).toNat.toUInt8)) ∧ w = w' := by
  have C : ∀ w, Calls Tryd.prog 106 #[.string s, .int .u8 b] w fun e w' => e = .returned (.int .i64 (Lib.indexByte s.data.toList (b : Int).toNat.toUInt8)) ∧ w = w' := fun w => by
    go_enter Tryd.func106, Tryd.ntmps106
    go_wp2
    rw [run_callFunc_extern Tryd.func115 (by kernel_rfl) (by kernel_rfl) (by kernel_rfl) (e := Extern.BytealgIndexByte.indexByte) (by kernel_rfl), Lib.run_indexByteString]
    simp only [Result.andThen]
    rw [Oper.upon_value]
    go_wp2
    go_ret
    exact ⟨rfl, rfl⟩
  have HC := Lib.hid C
  clear C
  go_enter Tryd.func131, Tryd.ntmps131
  go_wp2_with (go_at_call 106; refine (HC.out _).mono ?_; rintro e w' ⟨rfl, rfl⟩)
  go_ret
  exact ⟨rfl, rfl⟩

set_option maxRecDepth 100000 in
set_option maxHeartbeats 1000000 in
theorem written_any (b : Nat) (w : World) (hb : b < 256) :
    Calls Tryd.prog 130 #[.int .u8 b] w fun e w' => e = .returned (.bool (wrB b)) ∧ w = w' := by
  have H : Hid (wrB b = (clsN (b : Int) == 4 || clsN (b : Int) == 3 || clsN (b : Int) == 5)) := rfl
  by_cases h4 : clsN (b : Int) = 4
  · have t4 : (clsN (b : Int) == 4) = true := by rw [h4]; rfl
    clear h4
    go_enter Tryd.func130, Tryd.ntmps130
    go_wp2_with (go_at_call 98; refine (of_any _ _ (by omega) (by omega)).mono ?_; rintro e w' ⟨rfl, rfl⟩)
    go_ret
    exact ⟨ret_bool (by rw [H.out, t4]; rfl), rfl⟩
  have t4 : (clsN (b : Int) == 4) = false := by simpa using h4
  by_cases h3 : clsN (b : Int) = 3
  · have t3 : (clsN (b : Int) == 3) = true := by rw [h3]; rfl
    clear h4 h3
    go_enter Tryd.func130, Tryd.ntmps130
    go_wp2_with (go_at_call 98; refine (of_any _ _ (by omega) (by omega)).mono ?_; rintro e w' ⟨rfl, rfl⟩)
    go_ret
    exact ⟨ret_bool (by rw [H.out, t4, t3]; rfl), rfl⟩
  have t3 : (clsN (b : Int) == 3) = false := by simpa using h3
  clear h4 h3
  go_enter Tryd.func130, Tryd.ntmps130
  go_wp2_with (go_at_call 98; refine (of_any _ _ (by omega) (by omega)).mono ?_; rintro e w' ⟨rfl, rfl⟩)
  go_ret
  exact ⟨ret_bool (by rw [H.out, t4, t3]; simp), rfl⟩

/-- The scanner in block R. -/
def ScIn (w : World) (R : Nat) (s : ByteArray) (i : Nat) (bad : Bool) : Prop := w.heap[R]? = some (.cells #[.string s, .int .i64 i, .bool bad] 137)
section
variable {w w' : World} {R : Nat} {s : ByteArray} {i : Nat} {bad : Bool}
theorem ScIn.lt (h : ScIn w R s i bad) : R < w.heap.size := (Array.getElem?_eq_some_iff.1 h).1
theorem ScIn.c0 (h : ScIn w R s i bad) : w.cell? ⟨R, 0, none⟩ = some (.string s) := by rw [cell_of_row _ _ _ _ _ _ h]; rfl
theorem ScIn.c1 (h : ScIn w R s i bad) : w.cell? ⟨R, 1, none⟩ = some (.int .i64 i) := by rw [cell_of_row _ _ _ _ _ _ h]; rfl
theorem ScIn.c2 (h : ScIn w R s i bad) : w.cell? ⟨R, 2, none⟩ = some (.bool bad) := by rw [cell_of_row _ _ _ _ _ _ h]; rfl
theorem ScIn.free (h : ScIn w R s i bad) (k : Nat) : w.frozen? ⟨R, k, none⟩ = false := frozen_of_row w R k _ _ h
theorem ScIn.keep (h : ScIn w R s i bad) (e : w'.heap[R]? = w.heap[R]?) : ScIn w' R s i bad := e.trans h
theorem ScIn.set1 (h : ScIn w R s i bad) (k : Nat) : ScIn (w.setCell ⟨R, 1, none⟩ (.int .i64 k)) R s k bad := by
  unfold ScIn at *
  rw [heap_setCell_same w R 1 _ _ _ h]
  rfl
theorem ScIn.set2 (h : ScIn w R s i bad) (k : Bool) : ScIn (w.setCell ⟨R, 2, none⟩ (.bool k)) R s i k := by
  unfold ScIn at *
  rw [heap_setCell_same w R 2 _ _ _ h]
  rfl
theorem ScIn.other (h : ScIn w R s i bad) {g : Nat} (hg : R ≠ g) (k : Nat) (u : Value) : ScIn (w.setCell ⟨g, k, none⟩ u) R s i bad := h.keep (Below.heap_setCell _ _ _ _ hg)
theorem SetIn.other {t : TypeId} {g : Nat} {p : Nat → Bool} (h : SetIn w g t p) {r : Nat} (hg : g ≠ r) (k : Nat) (u : Value) : SetIn (w.setCell ⟨r, k, none⟩ u) g t p := h.keep (Below.heap_setCell _ _ _ _ hg)
theorem SetIn.below {t : TypeId} {g : Nat} {p : Nat → Bool} (h : SetIn w g t p) (hb : Below w.heap.size w w') : SetIn w' g t p := h.keep (hb.block _ h.lt)
theorem SetIn.only {t : TypeId} {g r : Nat} {p : Nat → Bool} (h : SetIn w g t p) (hb : Only r w w') (hg : g ≠ r) : SetIn w' g t p := h.keep (hb.block _ h.lt hg)
theorem ScIn.below (h : ScIn w R s i bad) (hb : Below w.heap.size w w') : ScIn w' R s i bad := h.keep (hb.block _ h.lt)
theorem ScIn.only {g : Nat} (h : ScIn w R s i bad) (hb : Only g w w') (hg : R ≠ g) : ScIn w' R s i bad := h.keep (hb.block _ h.lt hg)
theorem Only.new {a b c : World} {g : Nat} (h : Only R a b) (k : Only g b c) (hg : a.heap.size ≤ g) : Only R a c :=
  ⟨k.os.trans h.os, k.tape.trans h.tape, k.output.trans h.output, Nat.le_trans h.size k.size, fun i hi hn => (k.block i (Nat.lt_of_lt_of_le hi h.size) (by omega)).trans (h.block i hi hn)⟩
theorem Only.bel {a b c : World} (h : Only R a b) (k : Below b.heap.size b c) : Only R a c := h.trans (.of_below k)
theorem Only.rowNew {a b : World} {g : Nat} (h : Only R a b) (hg : a.heap.size ≤ g) (cs : Array Value) : Only R a (b.setRow g cs) := h.new ((Only.refl g b).row cs) hg
end

set_option maxRecDepth 100000 in
set_option maxHeartbeats 1000000 in
theorem more_any (w : World) (R : Nat) (s : ByteArray) (i : Nat) (bad : Bool) (h : ScIn w R s i bad) (hs : s.size ≤ maxLen) :
    Calls Tryd.prog 120 #[.pointer (some ⟨R, 0, none⟩)] w (QuietRet w (.bool (decide (i < s.size)))) := by
  unfold maxLen at hs
  have q0 := h.c0
  have q1 := h.c1
  have hd : decide ((i : Int) < (s.size : Int)) = decide (i < s.size) := by rw [decide_eq_decide]; omega
  have HD := Lib.hid hd
  clear h hd
  go_enter Tryd.func120, Tryd.ntmps120
  go_wp2_with fail
  go_quiet (fail)
  go_wp2_with fail
  go_ret
  exact ⟨ret_bool (by first | rfl | exact HD.out), _, rfl⟩

set_option maxRecDepth 100000 in
set_option maxHeartbeats 1000000 in
theorem fail_any (w : World) (R : Nat) (s : ByteArray) (i : Nat) (bad : Bool) (j : Nat) (h : ScIn w R s i bad) :
    Calls Tryd.prog 132 #[.pointer (some ⟨R, 0, none⟩), .int .i64 j] w fun e w' => e = .returned (.tuple #[]) ∧ ScIn w' R s j true ∧ Only R w w' := by
  have f1 := h.free 1
  have q1 := h.c1
  have q2 := h.c2
  have HS1 := Lib.hid (h.set1 j)
  have f2 := (h.set1 j).free 2
  clear h
  go_enter Tryd.func132, Tryd.ntmps132
  go_wp2_with fail
  go_end0
  exact ⟨rfl, HS1.out.set2 true, ((Only.refl R w).set _ _).set _ _⟩

end Go.Proofs.YtpboaadjbkaidaaDoor
