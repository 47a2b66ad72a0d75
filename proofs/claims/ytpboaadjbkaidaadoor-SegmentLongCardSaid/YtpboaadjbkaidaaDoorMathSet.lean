
/-
  Sets of bytes as 32 bytes. Plain.
-/
import Derived.WalkKit
import Derived.WalkLawsBesides
import Derived.Lib.Hide
namespace Go.Proofs.YtpboaadjbkaidaaDoor
set_option maxRecDepth 100000
open Go.RowKit

def b2n (p : Nat → Bool) (i : Nat) : Nat := if p i = true then 1 else 0
theorem b2n_le (p : Nat → Bool) (i : Nat) : b2n p i ≤ 1 := by unfold b2n; split <;> omega
/-- Byte k of a set. -/
def byteOf (p : Nat → Bool) (k : Nat) : Nat := b2n p (8 * k) + 2 * b2n p (8 * k + 1) + 4 * b2n p (8 * k + 2) + 8 * b2n p (8 * k + 3) + 16 * b2n p (8 * k + 4) + 32 * b2n p (8 * k + 5) + 64 * b2n p (8 * k + 6) + 128 * b2n p (8 * k + 7)
theorem byteOf_lt (p : Nat → Bool) (k : Nat) : byteOf p k < 256 := by
  have h0 := b2n_le p (8 * k)
  have h1 := b2n_le p (8 * k + 1)
  have h2 := b2n_le p (8 * k + 2)
  have h3 := b2n_le p (8 * k + 3)
  have h4 := b2n_le p (8 * k + 4)
  have h5 := b2n_le p (8 * k + 5)
  have h6 := b2n_le p (8 * k + 6)
  have h7 := b2n_le p (8 * k + 7)
  unfold byteOf
  omega
theorem byteOf_bit (p : Nat → Bool) (k j : Nat) (hj : j < 8) : byteOf p k / 2 ^ j % 2 = b2n p (8 * k + j) := by
  have h0 := b2n_le p (8 * k)
  have h1 := b2n_le p (8 * k + 1)
  have h2 := b2n_le p (8 * k + 2)
  have h3 := b2n_le p (8 * k + 3)
  have h4 := b2n_le p (8 * k + 4)
  have h5 := b2n_le p (8 * k + 5)
  have h6 := b2n_le p (8 * k + 6)
  have h7 := b2n_le p (8 * k + 7)
  unfold byteOf
  rcases (show j = 0 ∨ j = 1 ∨ j = 2 ∨ j = 3 ∨ j = 4 ∨ j = 5 ∨ j = 6 ∨ j = 7 by omega) with rfl | rfl | rfl | rfl | rfl | rfl | rfl | rfl
  all_goals simp only [Nat.add_zero, show (2 : Nat) ^ 0 = 1 from rfl, show (2 : Nat) ^ 1 = 2 from rfl, show (2 : Nat) ^ 2 = 4 from rfl, show (2 : Nat) ^ 3 = 8 from rfl, show (2 : Nat) ^ 4 = 16 from rfl, show (2 : Nat) ^ 5 = 32 from rfl, show (2 : Nat) ^ 6 = 64 from rfl, show (2 : Nat) ^ 7 = 128 from rfl]
  all_goals omega
/-- A byte is known by its bits. -/
theorem byte_ext {v u : Nat} (hv : v < 256) (hu : u < 256) (h : ∀ j, j < 8 → v / 2 ^ j % 2 = u / 2 ^ j % 2) : v = u := by
  have h0 := h 0 (by omega)
  have h1 := h 1 (by omega)
  have h2 := h 2 (by omega)
  have h3 := h 3 (by omega)
  have h4 := h 4 (by omega)
  have h5 := h 5 (by omega)
  have h6 := h 6 (by omega)
  have h7 := h 7 (by omega)
  simp only [show (2 : Nat) ^ 0 = 1 from rfl, show (2 : Nat) ^ 1 = 2 from rfl, show (2 : Nat) ^ 2 = 4 from rfl, show (2 : Nat) ^ 3 = 8 from rfl, show (2 : Nat) ^ 4 = 16 from rfl, show (2 : Nat) ^ 5 = 32 from rfl, show (2 : Nat) ^ 6 = 64 from rfl, show (2 : Nat) ^ 7 = 128 from rfl] at h0 h1 h2 h3 h4 h5 h6 h7
  omega
theorem byteOf_congr {p q : Nat → Bool} {k : Nat} (h : ∀ j, j < 8 → p (8 * k + j) = q (8 * k + j)) : byteOf p k = byteOf q k := by
  refine byte_ext (byteOf_lt p k) (byteOf_lt q k) fun j hj => ?_
  rw [byteOf_bit p k j hj, byteOf_bit q k j hj]
  unfold b2n
  rw [h j hj]

/-! ### What the machine's operations do to bits: all bytes tried -/
theorem and_tab : ∀ v : Fin 256, ∀ j : Fin 8, (bits BinOp.and IntKind.u8 (((v.val : Nat) : Int) / 2 ^ j.val) 1 == 1) = (v.val / 2 ^ j.val % 2 == 1) := by decide +kernel
theorem or_tab : ∀ v : Fin 256, ∀ j : Fin 8, ∀ i : Fin 8, 0 ≤ bits BinOp.or IntKind.u8 ((v.val : Nat) : Int) (2 ^ j.val) ∧ bits BinOp.or IntKind.u8 ((v.val : Nat) : Int) (2 ^ j.val) < 256 ∧ (bits BinOp.or IntKind.u8 ((v.val : Nat) : Int) (2 ^ j.val)).toNat / 2 ^ i.val % 2 = if i = j then 1 else v.val / 2 ^ i.val % 2 := by decide +kernel
theorem not_tab : ∀ v : Fin 256, ∀ i : Fin 8, 0 ≤ bits BinOp.xor IntKind.u8 255 ((v.val : Nat) : Int) ∧ bits BinOp.xor IntKind.u8 255 ((v.val : Nat) : Int) < 256 ∧ (bits BinOp.xor IntKind.u8 255 ((v.val : Nat) : Int)).toNat / 2 ^ i.val % 2 = 1 - v.val / 2 ^ i.val % 2 := by decide +kernel

/-- The bit of a byte in a set. -/
theorem test_bit (p : Nat → Bool) (b : Nat) : (bits BinOp.and IntKind.u8 ((byteOf p (b / 8) : Nat) / 2 ^ (b % 8)) 1 == 1) = p b := by
  have h := and_tab ⟨byteOf p (b / 8), byteOf_lt _ _⟩ ⟨b % 8, Nat.mod_lt _ (by decide)⟩
  simp only at h
  rw [h, byteOf_bit p (b / 8) (b % 8) (Nat.mod_lt _ (by decide)), show 8 * (b / 8) + b % 8 = b by omega]
  unfold b2n
  cases p b <;> rfl
def addP (p : Nat → Bool) (b : Nat) : Nat → Bool := fun n => n == b || p n
theorem add_byte (p : Nat → Bool) (b : Nat) : bits BinOp.or IntKind.u8 (byteOf p (b / 8) : Nat) (2 ^ (b % 8)) = ((byteOf (addP p b) (b / 8) : Nat) : Int) := by
  have h := fun i : Fin 8 => or_tab ⟨byteOf p (b / 8), byteOf_lt _ _⟩ ⟨b % 8, Nat.mod_lt _ (by decide)⟩ i
  simp only at h
  have h0 := h 0
  generalize hz : bits BinOp.or IntKind.u8 (byteOf p (b / 8) : Nat) (2 ^ (b % 8)) = z at h h0
  obtain ⟨n, rfl⟩ : ∃ n : Nat, z = (n : Int) := ⟨z.toNat, by omega⟩
  have e : n = byteOf (addP p b) (b / 8) := byte_ext (by omega) (byteOf_lt _ _) fun j hj => by
    have h1 := (h ⟨j, hj⟩).2.2
    rw [Int.toNat_natCast] at h1
    rw [h1, byteOf_bit _ _ j hj, byteOf_bit _ _ j hj]
    unfold addP b2n
    by_cases hjb : j = b % 8
    · rw [if_pos (by ext; exact hjb)]
      have : (8 * (b / 8) + j == b) = true := by simp; omega
      simp [this]
    · rw [if_neg (fun e => hjb (by simpa using congrArg Fin.val e))]
      have : (8 * (b / 8) + j == b) = false := by simp; omega
      simp [this]
  rw [e]
theorem add_other (p : Nat → Bool) (b k : Nat) (h : k ≠ b / 8) : byteOf (addP p b) k = byteOf p k := byteOf_congr fun j hj => by
  unfold addP
  have : (8 * k + j == b) = false := by simp; omega
  rw [this, Bool.false_or]
def notP (p : Nat → Bool) : Nat → Bool := fun n => !p n
theorem not_byte (p : Nat → Bool) (k : Nat) : bits BinOp.xor IntKind.u8 255 (byteOf p k : Nat) = ((byteOf (notP p) k : Nat) : Int) := by
  have h := fun i : Fin 8 => not_tab ⟨byteOf p k, byteOf_lt _ _⟩ i
  simp only at h
  have h0 := h 0
  generalize hz : bits BinOp.xor IntKind.u8 255 (byteOf p k : Nat) = z at h h0
  obtain ⟨n, rfl⟩ : ∃ n : Nat, z = (n : Int) := ⟨z.toNat, by omega⟩
  have e : n = byteOf (notP p) k := byte_ext (by omega) (byteOf_lt _ _) fun j hj => by
    have h1 := (h ⟨j, hj⟩).2.2
    rw [Int.toNat_natCast] at h1
    rw [h1, byteOf_bit _ _ j hj, byteOf_bit _ _ j hj]
    unfold notP b2n
    cases hx : p (8 * k + j) <;> simp [hx]
  rw [e]
def orP (p q : Nat → Bool) : Nat → Bool := fun n => p n || q n
theorem bv_or (v u : BitVec 8) (j : Nat) : (v ||| u).toNat / 2 ^ j % 2 = if v.toNat / 2 ^ j % 2 = 1 ∨ u.toNat / 2 ^ j % 2 = 1 then 1 else 0 := by
  have h := Nat.testBit_or v.toNat u.toNat j
  rw [Nat.testBit_eq_decide_div_mod_eq, Nat.testBit_eq_decide_div_mod_eq, Nat.testBit_eq_decide_div_mod_eq] at h
  rw [BitVec.toNat_or]
  by_cases h1 : v.toNat / 2 ^ j % 2 = 1 ∨ u.toNat / 2 ^ j % 2 = 1
  · rw [if_pos h1]
    rcases h1 with h1 | h1
    · simp [h1] at h; exact h
    · simp [h1] at h; exact h
  · rw [if_neg h1]
    have h2 : ¬ v.toNat / 2 ^ j % 2 = 1 := fun e => h1 (.inl e)
    have h3 : ¬ u.toNat / 2 ^ j % 2 = 1 := fun e => h1 (.inr e)
    simp [h2, h3] at h
    omega
theorem or_byte (p q : Nat → Bool) (k : Nat) : bits BinOp.or IntKind.u8 (byteOf p k : Nat) (byteOf q k : Nat) = ((byteOf (orP p q) k : Nat) : Int) := by
  have hp := byteOf_lt p k
  have hq := byteOf_lt q k
  have e1 : bits BinOp.or IntKind.u8 (byteOf p k : Nat) (byteOf q k : Nat) = (((BitVec.ofNat 8 (byteOf p k) ||| BitVec.ofNat 8 (byteOf q k)).toNat : Nat) : Int) := by
    unfold bits
    show IntKind.u8.wrap (((BitVec.ofInt 8 (byteOf p k : Nat)) ||| (BitVec.ofInt 8 (byteOf q k : Nat))).toNat : Nat) = _
    rw [BitVec.ofInt_natCast, BitVec.ofInt_natCast]
    have := (BitVec.ofNat 8 (byteOf p k) ||| BitVec.ofNat 8 (byteOf q k)).isLt
    generalize (BitVec.ofNat 8 (byteOf p k) ||| BitVec.ofNat 8 (byteOf q k)).toNat = z at this
    rw [IntKind.wrap_u8]
    omega
  rw [e1]
  have hlt := (BitVec.ofNat 8 (byteOf p k) ||| BitVec.ofNat 8 (byteOf q k)).isLt
  have e : (BitVec.ofNat 8 (byteOf p k) ||| BitVec.ofNat 8 (byteOf q k)).toNat = byteOf (orP p q) k := byte_ext hlt (byteOf_lt _ _) fun j hj => by
    rw [bv_or, BitVec.toNat_ofNat, BitVec.toNat_ofNat, Nat.mod_eq_of_lt hp, Nat.mod_eq_of_lt hq, byteOf_bit _ _ j hj, byteOf_bit _ _ j hj, byteOf_bit _ _ j hj]
    unfold orP b2n
    cases hx : p (8 * k + j) <;> cases hy : q (8 * k + j) <;> simp [hx, hy]
  rw [e]

/-- The cells of a set. -/
def setC (p : Nat → Bool) : List Value := (List.range 32).map fun k => .int .u8 (byteOf p k : Nat)
theorem setC_length (p : Nat → Bool) : (setC p).length = 32 := by simp [setC]
theorem setC_get (p : Nat → Bool) (k : Nat) (h : k < 32) : (setC p)[k]? = some (.int .u8 (byteOf p k : Nat)) := by simp [setC, h]
theorem setC_congr {p q : Nat → Bool} (h : ∀ n, n < 256 → p n = q n) : setC p = setC q := by
  unfold setC
  refine List.map_congr_left fun k hk => ?_
  have hk' := List.mem_range.1 hk
  rw [byteOf_congr fun j hj => h _ (by omega)]
/-- A set with one byte written anew. -/
theorem setC_set (p q : Nat → Bool) (k : Nat) (hk : k < 32) (h : ∀ i, i < 32 → i ≠ k → byteOf q i = byteOf p i) : (setC p).toArray.setIfInBounds k (.int .u8 (byteOf q k : Nat)) = (setC q).toArray := by
  rw [List.setIfInBounds_toArray]
  congr 1
  refine List.ext_getElem? fun i => ?_
  by_cases hi : i < 32
  · by_cases hik : i = k
    · subst hik
      rw [List.getElem?_set_self (by rw [setC_length]; exact hk), setC_get q i hi]
    · rw [List.getElem?_set_ne (fun e => hik e.symm), setC_get p i hi, setC_get q i hi, h i hi hik]
  · rw [List.getElem?_eq_none (by rw [List.length_set, setC_length]; omega), List.getElem?_eq_none (by rw [setC_length]; omega)]
theorem setC_add (p : Nat → Bool) (b : Nat) (hb : b < 256) : (setC p).toArray.setIfInBounds (b / 8) (.int .u8 (byteOf (addP p b) (b / 8) : Nat)) = (setC (addP p b)).toArray :=
  setC_set p (addP p b) (b / 8) (by omega) fun i _ hi => add_other p b i hi
def noP : Nat → Bool := fun _ => false

end Go.Proofs.YtpboaadjbkaidaaDoor
