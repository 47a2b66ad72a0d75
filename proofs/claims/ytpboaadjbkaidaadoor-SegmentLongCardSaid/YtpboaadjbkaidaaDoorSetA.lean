
/-
  Sets of bytes: the walks.
-/
import Derived.Test.YtpboaadjbkaidaaDoorMathSet
import Derived.Test.YtpboaadjbkaidaaDoorChecked
import Derived.Test.YtpboaadjbkaidaaDoorBase
import Derived.BigRegion
import Derived.KernelRfl
namespace Go.Proofs.YtpboaadjbkaidaaDoor
set_option maxRecDepth 100000
open Go.RowKit

/-- An atom: its set, its least number, and whether it may be many. -/
structure At where
  p : Nat → Bool
  mn : Int
  many : Bool
def atC (x : At) : List Value := setC x.p ++ [.int .i64 x.mn, .bool x.many]
theorem atC_len (x : At) : (atC x).length = 34 := by simp [atC, setC_length]
theorem atC_set (x : At) (k : Nat) (h : k < 32) : (atC x)[k]? = some (.int .u8 (byteOf x.p k : Nat)) := by
  unfold atC
  rw [List.getElem?_append_left (by rw [setC_length]; exact h), setC_get x.p k h]
theorem atC_mn (x : At) : (atC x)[32]? = some (.int .i64 x.mn) := by
  unfold atC
  rw [List.getElem?_append_right (by rw [setC_length]; omega), setC_length]
  rfl
theorem atC_many (x : At) : (atC x)[33]? = some (.bool x.many) := by
  unfold atC
  rw [List.getElem?_append_right (by rw [setC_length]; omega), setC_length]
  rfl

theorem at_cell (w : World) (x : At) (t : TypeId) (k : Nat) (v : Value) (h : (atC x)[k]? = some v) : (w.alloc (.cells (atC x).toArray t)).cell? ⟨w.heap.size, k, none⟩ = some v := by
  rw [cell_of_row _ _ _ (atC x).toArray t _ (heap_alloc_new w _)]
  simpa using h

set_option maxRecDepth 100000 in
set_option maxHeartbeats 1000000 in
theorem contains_any (x : At) (b : Nat) (w : World) (hb : b < 256) :
    Calls Tryd.prog 82 #[.agg (atC x).toArray, .int .u8 b] w fun e w' => e = .returned (.bool (x.p b)) ∧ Below w.heap.size w w' := by
  have q := at_cell w x 26 (b / 8) _ (atC_set x (b / 8) (by omega))
  have H := Lib.hid (test_bit x.p b)
  have hv := byteOf_lt x.p (b / 8)
  generalize byteOf x.p (b / 8) = v at q H hv
  generalize (atC x).toArray = cs at q ⊢
  go_enter Tryd.func82, Tryd.ntmps82
  go_wp2_with fail
  go_ret
  exact ⟨ret_bool H.out, (Below.refl w.heap.size w).alloc (Nat.le_refl _) _⟩

set_option maxRecDepth 100000 in
set_option maxHeartbeats 1000000 in
theorem rcontains_any (x : At) (b : Nat) (w : World) (hb : b < 256) :
    Calls Tryd.prog 93 #[.agg (atC x).toArray, .int .u8 b] w fun e w' => e = .returned (.bool (x.p b)) ∧ Below w.heap.size w w' := by
  have q := at_cell w x 26 (b / 8) _ (atC_set x (b / 8) (by omega))
  have H := Lib.hid (test_bit x.p b)
  have hv := byteOf_lt x.p (b / 8)
  generalize byteOf x.p (b / 8) = v at q H hv
  generalize (atC x).toArray = cs at q ⊢
  go_enter Tryd.func93, Tryd.ntmps93
  go_wp2_with fail
  go_ret
  exact ⟨ret_bool H.out, (Below.refl w.heap.size w).alloc (Nat.le_refl _) _⟩

/-- The set in block g. -/
def SetIn (w : World) (g : Nat) (t : TypeId) (p : Nat → Bool) : Prop := w.heap[g]? = some (.cells (setC p).toArray t)
theorem SetIn.cell {w : World} {g : Nat} {t : TypeId} {p : Nat → Bool} (h : SetIn w g t p) (k : Nat) (hk : k < 32) : w.cell? ⟨g, k, none⟩ = some (.int .u8 (byteOf p k : Nat)) := by
  rw [cell_of_row _ _ _ _ _ _ h]
  simpa using setC_get p k hk
theorem SetIn.free {w : World} {g : Nat} {t : TypeId} {p : Nat → Bool} (h : SetIn w g t p) (k : Nat) : w.frozen? ⟨g, k, none⟩ = false := frozen_of_row w g k _ t h
theorem SetIn.lt {w : World} {g : Nat} {t : TypeId} {p : Nat → Bool} (h : SetIn w g t p) : g < w.heap.size := (Array.getElem?_eq_some_iff.1 h).1
theorem SetIn.setByte {w : World} {g : Nat} {t : TypeId} {p : Nat → Bool} (h : SetIn w g t p) (q : Nat → Bool) (k : Nat) (hk : k < 32) (hq : ∀ i, i < 32 → i ≠ k → byteOf q i = byteOf p i) : SetIn (w.setCell ⟨g, k, none⟩ (.int .u8 (byteOf q k : Nat))) g t q := by
  unfold SetIn at *
  rw [heap_setCell_same w g k _ t _ h, setC_set p q k hk hq]

theorem pow_small (j : Nat) (h : j < 8) : (2 : Int) ^ j % 256 = 2 ^ j := by
  rcases (show j = 0 ∨ j = 1 ∨ j = 2 ∨ j = 3 ∨ j = 4 ∨ j = 5 ∨ j = 6 ∨ j = 7 by omega) with rfl | rfl | rfl | rfl | rfl | rfl | rfl | rfl <;> rfl
/-- Block g alone may have changed. -/
structure Only (g : Nat) (w w' : World) : Prop where
  os : w'.os = w.os
  tape : w'.tape = w.tape
  output : w'.output = w.output
  size : w.heap.size ≤ w'.heap.size
  block : ∀ k, k < w.heap.size → k ≠ g → w'.heap[k]? = w.heap[k]?
theorem Only.refl (g : Nat) (w : World) : Only g w w := ⟨rfl, rfl, rfl, Nat.le_refl _, fun _ _ _ => rfl⟩
theorem Only.trans {g : Nat} {a b c : World} (h : Only g a b) (k : Only g b c) : Only g a c :=
  ⟨k.os.trans h.os, k.tape.trans h.tape, k.output.trans h.output, Nat.le_trans h.size k.size, fun i hi hn => (k.block i (Nat.lt_of_lt_of_le hi h.size) hn).trans (h.block i hi hn)⟩
theorem Only.of_below {g : Nat} {w w' : World} (h : Below w.heap.size w w') : Only g w w' := ⟨h.os, h.tape, h.output, h.size, fun k hk _ => h.block k hk⟩
theorem Only.below {g B : Nat} {w w' : World} (h : Only g w w') (hB : B ≤ g) (hs : B ≤ w.heap.size) : Below B w w' := ⟨h.os, h.tape, h.output, h.size, fun k hk => h.block k (by omega) (by omega)⟩
theorem Only.alloc {g : Nat} {a w : World} (h : Only g a w) (o : Obj) : Only g a (w.alloc o) := h.trans (.of_below ((Below.refl _ _).alloc (Nat.le_refl _) o))
theorem Only.drewN {g : Nat} {a w : World} (h : Only g a w) (n : Nat) : Only g a (w.drewN n) := ⟨h.os, h.tape, h.output, h.size, h.block⟩
theorem Only.set {g : Nat} {a w : World} (h : Only g a w) (j : Nat) (u : Value) : Only g a (w.setCell ⟨g, j, none⟩ u) :=
  h.trans ⟨rfl, rfl, rfl, by simp [World.setCell], fun k _ hn => Below.heap_setCell _ _ _ _ (by show k ≠ g; exact hn)⟩

set_option maxRecDepth 100000 in
set_option maxHeartbeats 1000000 in
theorem add_any (p : Nat → Bool) (g b : Nat) (t : TypeId) (w : World) (h : SetIn w g t p) (hb : b < 256) :
    Calls Tryd.prog 133 #[.pointer (some ⟨g, 0, none⟩), .int .u8 b] w fun e w' => e = .returned (.tuple #[]) ∧ SetIn w' g t (addP p b) ∧ Only g w w' := by
  have q := h.cell (b / 8) (by omega)
  have qf := h.free (b / 8)
  have ha := add_byte p b
  rw [← pow_small (b % 8) (Nat.mod_lt _ (by decide))] at ha
  have HA := Lib.hid ha
  clear ha
  have HS := Lib.hid (h.setByte (addP p b) (b / 8) (by omega) fun i _ hi => add_other p b i hi)
  have hv := byteOf_lt p (b / 8)
  generalize byteOf p (b / 8) = v at q HA hv
  clear h
  go_enter Tryd.func133, Tryd.ntmps133
  go_wp2_with fail
  go_region
  all_goals
    go_wp2_with fail
    go_end0
    rw [HA.out]
    exact ⟨rfl, HS.out, ((Only.refl g w).set _ _).drewN 1⟩

set_option maxRecDepth 100000 in
set_option maxHeartbeats 1000000 in
theorem put_any (p : Nat → Bool) (g b : Nat) (t : TypeId) (w : World) (h : SetIn w g t p) (hb : b < 256) :
    Calls Tryd.prog 124 #[.pointer (some ⟨g, 0, none⟩), .int .u8 b] w fun e w' => e = .returned (.tuple #[]) ∧ SetIn w' g t (addP p b) ∧ Only g w w' := by
  have q := h.cell (b / 8) (by omega)
  have qf := h.free (b / 8)
  have ha := add_byte p b
  rw [← pow_small (b % 8) (Nat.mod_lt _ (by decide))] at ha
  have HA := Lib.hid ha
  clear ha
  have HS := Lib.hid (h.setByte (addP p b) (b / 8) (by omega) fun i _ hi => add_other p b i hi)
  have hv := byteOf_lt p (b / 8)
  generalize byteOf p (b / 8) = v at q HA hv
  clear h
  go_enter Tryd.func124, Tryd.ntmps124
  go_wp2_with fail
  go_region
  all_goals
    go_wp2_with fail
    go_end0
    rw [HA.out]
    exact ⟨rfl, HS.out, ((Only.refl g w).set _ _).drewN 1⟩

/-- A set joined byte by byte: k bytes are done. -/
def mixP (p q : Nat → Bool) (k : Nat) : Nat → Bool := fun n => if n / 8 < k then q n else p n
theorem mix_byte (p q : Nat → Bool) (k i : Nat) : byteOf (mixP p q k) i = if i < k then byteOf q i else byteOf p i := by
  by_cases h : i < k
  · rw [if_pos h]
    refine byteOf_congr fun j hj => ?_
    unfold mixP
    rw [if_pos (by omega)]
  · rw [if_neg h]
    refine byteOf_congr fun j hj => ?_
    unfold mixP
    rw [if_neg (by omega)]
theorem SetIn.congr {w : World} {g : Nat} {t : TypeId} {p q : Nat → Bool} (h : SetIn w g t p) (e : ∀ n, n < 256 → p n = q n) : SetIn w g t q := by
  unfold SetIn at *
  rw [← setC_congr e]
  exact h
theorem SetIn.mix {w : World} {g : Nat} {t : TypeId} {p q : Nat → Bool} {k : Nat} (h : SetIn w g t (mixP p q k)) (hk : k < 32) : SetIn (w.setCell ⟨g, k, none⟩ (.int .u8 (byteOf q k : Nat))) g t (mixP p q (k + 1)) := by
  have h2 := h.setByte (mixP p q (k + 1)) k hk fun i _ hi => by
    rw [mix_byte, mix_byte]
    by_cases h3 : i < k
    · rw [if_pos h3, if_pos (by omega)]
    · rw [if_neg h3, if_neg (by omega)]
  rw [mix_byte, if_pos (by omega)] at h2
  exact h2
theorem SetIn.keep {w w' : World} {g : Nat} {t : TypeId} {p : Nat → Bool} (h : SetIn w g t p) (e : w'.heap[g]? = w.heap[g]?) : SetIn w' g t p := e.trans h

set_option maxRecDepth 100000 in
set_option maxHeartbeats 2000000 in
theorem join_any (p q : Nat → Bool) (g : Nat) (t : TypeId) (w : World) (h : SetIn w g t p) :
    Calls Tryd.prog 139 #[.pointer (some ⟨g, 0, none⟩), .agg (setC q).toArray] w fun e w' => e = .returned (.tuple #[]) ∧ SetIn w' g t (orP p q) ∧ Only g w w' := by
  have hlt := h.lt
  have HQ0 : Hid (SetIn (w.alloc (.cells (setC q).toArray 138)) w.heap.size 138 q) := heap_alloc_new w _
  have HP0 : Hid (SetIn (w.alloc (.cells (setC q).toArray 138)) g t p) := h.keep (Below.heap_alloc w _ g hlt)
  have HO0 := Lib.hid ((Only.refl g w).alloc (.cells (setC q).toArray 138))
  clear h
  generalize (setC q).toArray = cs at HQ0 HP0 HO0 ⊢
  go_enter Tryd.func139, Tryd.ntmps139
  go_wp2_with fail
  go_loopw [5] (fun kv wr => ∃ k : Nat, k ≤ 32 ∧ kv = .int .i64 k ∧ Hid (SetIn wr w.heap.size 138 q) ∧ Hid (SetIn wr g t (mixP p (orP p q) k)) ∧ Hid (Only g w wr)) (fun kv _ => 32 - (intOf kv).toNat)
  case atStart => exact ⟨0, by omega, rfl, HQ0.out, HP0.out.congr fun n _ => by unfold mixP; rw [if_neg (by omega)], HO0.out⟩
  case round =>
    clear HQ0 HP0 HO0
    obtain ⟨k, hk, rfl, HQ, HP, HO⟩ := hrel
    by_cases hkl : k < 32
    · have q1 := HQ.out.cell k hkl
      have q2 := HP.out.cell k hkl
      have qf := HP.out.free k
      rw [mix_byte, if_neg (by omega)] at q2
      have HS := Lib.hid (HP.out.mix hkl)
      have HOR := Lib.hid (or_byte p q k)
      have hv := byteOf_lt p k
      have hu := byteOf_lt q k
      generalize byteOf p k = v at q2 HOR hv
      generalize byteOf q k = u at q1 HOR hu
      go_wp2_with fail
      go_region
      all_goals
        go_wp2_with fail
        rw [HOR.out]
        exact ⟨⟨k + 1, by omega, by go_num, HQ.out.keep (Below.heap_setCell _ _ _ _ (by show w.heap.size ≠ g; omega)), HS.out, (HO.out.set _ _).drewN 1⟩, by simp [intOf]; try omega⟩
    · obtain rfl : k = 32 := by omega
      go_wp2_with fail
      go_end0
      exact ⟨rfl, HP.out.congr fun n hn => by unfold mixP; rw [if_pos (by omega)], HO.out⟩

/-- A store of a whole set. -/
theorem SetIn.row {w : World} {g : Nat} {t : TypeId} {p : Nat → Bool} (h : SetIn w g t p) (q : Nat → Bool) : SetIn (w.setRow g (setC q).toArray) g t q := setRow_heap w g _ _ t _ h
theorem Only.row {g : Nat} {a w : World} (h : Only g a w) (cs : Array Value) : Only g a (w.setRow g cs) :=
  h.trans ⟨rfl, rfl, rfl, by simp, fun k _ hn => setRow_other w g k cs hn⟩
theorem set_size : (Tryd.prog.info? 138).map (·.size) = some 32 := by kernel_rfl
theorem setC_size (p : Nat → Bool) : (setC p).toArray.size = 32 := by simp [setC_length]

theorem res_set {fn : Func} {p : Tmp} (h : fn.results = #[.cell p 138]) (tmps : Array Value) (w : World) (g : Nat) (t : TypeId) (q : Nat → Bool) (hp : tmps.getD p undef = .pointer (some ⟨g, 0, none⟩)) (hs : SetIn w g t q) :
    (results fn tmps).run Tryd.prog w = .ok (.agg (setC q).toArray) w :=
  results_cell_row h tmps w g t (setC q).toArray (0, 0) _ hp hs Tryd.underlying138 rfl (by rw [set_size, setC_size])
theorem setC_one (p : Nat → Bool) : (setC p).toArray.all (·.oneCell') = true := by
  rw [Array.all_eq_true_iff_forall_mem]
  intro v hv
  simp [setC] at hv
  obtain ⟨k, _, rfl⟩ := hv
  rfl
theorem zero_set : (#[.int .u8 0, .int .u8 0, .int .u8 0, .int .u8 0, .int .u8 0, .int .u8 0, .int .u8 0, .int .u8 0, .int .u8 0, .int .u8 0, .int .u8 0, .int .u8 0, .int .u8 0, .int .u8 0, .int .u8 0, .int .u8 0, .int .u8 0, .int .u8 0, .int .u8 0, .int .u8 0, .int .u8 0, .int .u8 0, .int .u8 0, .int .u8 0, .int .u8 0, .int .u8 0, .int .u8 0, .int .u8 0, .int .u8 0, .int .u8 0, .int .u8 0, .int .u8 0] : Array Value) = (setC noP).toArray := by kernel_rfl
def zeroA : Array Value := #[.int .u8 0, .int .u8 0, .int .u8 0, .int .u8 0, .int .u8 0, .int .u8 0, .int .u8 0, .int .u8 0, .int .u8 0, .int .u8 0, .int .u8 0, .int .u8 0, .int .u8 0, .int .u8 0, .int .u8 0, .int .u8 0, .int .u8 0, .int .u8 0, .int .u8 0, .int .u8 0, .int .u8 0, .int .u8 0, .int .u8 0, .int .u8 0, .int .u8 0, .int .u8 0, .int .u8 0, .int .u8 0, .int .u8 0, .int .u8 0, .int .u8 0, .int .u8 0]

end Go.Proofs.YtpboaadjbkaidaaDoor
