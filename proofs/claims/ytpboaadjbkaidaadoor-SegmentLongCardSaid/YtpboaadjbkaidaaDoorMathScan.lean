
/-
  What a written pattern's pieces are: sets, steps, the whole. Plain.
-/
import Derived.Test.YtpboaadjbkaidaaDoorSetB
import Derived.Lib.Bytealg
namespace Go.Proofs.YtpboaadjbkaidaaDoor
set_option maxRecDepth 100000
open Go.RowKit

/-- Byte i of a string. -/
def bt (s : ByteArray) (i : Nat) : Nat := (s.data.toList.getD i 0).toNat
theorem bt_get (s : ByteArray) (i : Nat) (h : i < s.size) : bt s i = s[i].toNat := by
  unfold bt
  have hl : i < s.data.toList.length := by rw [← Lib.size_eq]; exact h
  rw [List.getD_eq_getElem?_getD, List.getElem?_eq_getElem hl]
  rfl
theorem bt_lt (s : ByteArray) (i : Nat) : bt s i < 256 := (s.data.toList.getD i 0).toNat_lt

/-- The set that a letter behind a backslash stands for. -/
def classP (c : Nat) : Option (Nat → Bool) :=
  if c = 115 then some (kindP 2) else if c = 83 then some (notP (kindP 2))
  else if c = 100 then some (kindP 3) else if c = 68 then some (notP (kindP 3))
  else if c = 108 then some (kindP 4) else if c = 76 then some (notP (kindP 4))
  else if c = 99 then some (kindP 1) else if c = 67 then some (notP (kindP 1))
  else if c = 109 then some (kindP 5) else if c = 77 then some (notP (kindP 5))
  else if c = 117 then some (kindP 0) else if c = 85 then some (notP (kindP 0))
  else none
theorem classP_letter : ∀ c : Fin 256, (classP c.val).isSome = true → clsN (c.val : Int) = 4 := by decide +kernel
theorem or32_tab : ∀ c : Fin 256, (bits BinOp.or IntKind.u8 ((c.val : Nat) : Int) 32 = 115 → c.val = 115 ∨ c.val = 83) ∧ (bits BinOp.or IntKind.u8 ((c.val : Nat) : Int) 32 = 100 → c.val = 100 ∨ c.val = 68)
    ∧ (bits BinOp.or IntKind.u8 ((c.val : Nat) : Int) 32 = 108 → c.val = 108 ∨ c.val = 76) ∧ (bits BinOp.or IntKind.u8 ((c.val : Nat) : Int) 32 = 99 → c.val = 99 ∨ c.val = 67)
    ∧ (bits BinOp.or IntKind.u8 ((c.val : Nat) : Int) 32 = 109 → c.val = 109 ∨ c.val = 77) ∧ (bits BinOp.or IntKind.u8 ((c.val : Nat) : Int) 32 = 117 → c.val = 117 ∨ c.val = 85) := by decide +kernel
theorem or32_val : bits BinOp.or IntKind.u8 ((115 : Nat) : Int) 32 = 115 ∧ bits BinOp.or IntKind.u8 ((83 : Nat) : Int) 32 = 115 ∧ bits BinOp.or IntKind.u8 ((100 : Nat) : Int) 32 = 100 ∧ bits BinOp.or IntKind.u8 ((68 : Nat) : Int) 32 = 100
    ∧ bits BinOp.or IntKind.u8 ((108 : Nat) : Int) 32 = 108 ∧ bits BinOp.or IntKind.u8 ((76 : Nat) : Int) 32 = 108 ∧ bits BinOp.or IntKind.u8 ((99 : Nat) : Int) 32 = 99 ∧ bits BinOp.or IntKind.u8 ((67 : Nat) : Int) 32 = 99
    ∧ bits BinOp.or IntKind.u8 ((109 : Nat) : Int) 32 = 109 ∧ bits BinOp.or IntKind.u8 ((77 : Nat) : Int) 32 = 109 ∧ bits BinOp.or IntKind.u8 ((117 : Nat) : Int) 32 = 117 ∧ bits BinOp.or IntKind.u8 ((85 : Nat) : Int) 32 = 117 := by decide +kernel

/-- May a byte be written. -/
def wrB (b : Nat) : Bool := clsN (b : Int) == 4 || clsN (b : Int) == 3 || clsN (b : Int) == 5
def oneP (b : Nat) : Nat → Bool := addP noP b
/-- What a step of the scanner gives: the set, the byte, whether it is one, where it stands, whether it failed. -/
structure SR where
  p : Nat → Bool
  b : Nat
  one : Bool
  j : Nat
  bad : Bool
def badR (j : Nat) : SR := ⟨noP, 0, false, j, true⟩
/-- Behind a backslash at i. -/
def escF (s : ByteArray) (i : Nat) : SR :=
  if i + 1 < s.size then
    if clsN (bt s (i + 1) : Int) = 5 then ⟨oneP (bt s (i + 1)), bt s (i + 1), true, i + 2, false⟩
    else match classP (bt s (i + 1)) with
      | some p => ⟨p, bt s (i + 1), false, i + 2, false⟩
      | none => badR (i + 1)
  else badR (i + 1)
/-- The bytes that may not stand bare inside brackets; outside of them. -/
def inIn (b : Nat) : Bool := b == 93 || b == 91 || b == 94 || b == 45
def inOut (b : Nat) : Bool := b == 42 || b == 43 || b == 63 || b == 40 || b == 41 || b == 124 || b == 93 || b == 123 || b == 125
def singleF (s : ByteArray) (i : Nat) : SR :=
  if bt s i = 92 then escF s i
  else if wrB (bt s i) = true ∧ inIn (bt s i) = false then ⟨oneP (bt s i), bt s i, true, i + 1, false⟩
  else badR i
theorem index_in : ∀ b : Fin 256, decide (0 ≤ Lib.indexByte [93, 91, 94, 45] (b.val : Int).toNat.toUInt8) = inIn b.val := by decide +kernel
theorem index_out : ∀ b : Fin 256, decide (0 ≤ Lib.indexByte [42, 43, 63, 40, 41, 124, 93, 123, 125] (b.val : Int).toNat.toUInt8) = inOut b.val := by decide +kernel

theorem escF_ok (s : ByteArray) (i : Nat) (h : i < s.size) : (escF s i).b < 256 ∧ (escF s i).j ≤ s.size ∧ ((escF s i).bad = false → i < (escF s i).j) ∧ i ≤ (escF s i).j := by
  unfold escF
  have hb := bt_lt s (i + 1)
  split
  · split
    · refine ⟨hb, ?_, fun _ => ?_, ?_⟩ <;> simp only <;> omega
    · split
      · refine ⟨hb, ?_, fun _ => ?_, ?_⟩ <;> simp only <;> omega
      · refine ⟨(show (0 : Nat) < 256 by omega), ?_, fun h => absurd h (by simp [badR]), ?_⟩ <;> simp only [badR] <;> omega
  · refine ⟨(show (0 : Nat) < 256 by omega), ?_, fun h => absurd h (by simp [badR]), ?_⟩ <;> simp only [badR] <;> omega
theorem singleF_ok (s : ByteArray) (i : Nat) (h : i < s.size) : (singleF s i).b < 256 ∧ (singleF s i).j ≤ s.size ∧ ((singleF s i).bad = false → i < (singleF s i).j) ∧ i ≤ (singleF s i).j := by
  unfold singleF
  have hb := bt_lt s i
  split
  · exact escF_ok s i h
  · split
    · refine ⟨hb, ?_, fun _ => ?_, ?_⟩ <;> simp only <;> omega
    · refine ⟨(show (0 : Nat) < 256 by omega), ?_, fun h => absurd h (by simp [badR]), ?_⟩ <;> simp only [badR] <;> omega
/-- The bytes from lo up to k, k not among them. -/
def rng (lo k : Nat) : Nat → Bool := fun n => decide (lo ≤ n ∧ n < k)
theorem rng_none (p : Nat → Bool) (lo : Nat) : ∀ n, n < 256 → p n = orP p (rng lo lo) n := fun n _ => by
  unfold orP rng
  rw [decide_eq_false (by omega), Bool.or_false]
theorem rng_add (p : Nat → Bool) (lo k : Nat) (h : lo ≤ k) : ∀ n, n < 256 → addP (orP p (rng lo k)) k n = orP p (rng lo (k + 1)) n := fun n _ => by
  unfold addP orP rng
  by_cases hn : n = k
  · subst hn
    simp [h]
  · have h1 : (n == k) = false := by simpa using hn
    rw [h1, Bool.false_or]
    congr 1
    rw [decide_eq_decide]
    omega
/-- A member of a set in brackets at i: what the set becomes, where it stands, whether it failed. -/
def memberF (s : ByteArray) (i : Nat) (p : Nat → Bool) : (Nat → Bool) × Nat × Bool :=
  if (singleF s i).bad = true then (p, (singleF s i).j, true)
  else if (singleF s i).one = true ∧ (singleF s i).j < s.size ∧ bt s (singleF s i).j = 45 then
    if (singleF s i).j + 1 < s.size then
      if (singleF s ((singleF s i).j + 1)).bad = true then (p, (singleF s ((singleF s i).j + 1)).j, true)
      else if (singleF s ((singleF s i).j + 1)).one = false then (p, (singleF s i).j + 2, true)
      else if (singleF s ((singleF s i).j + 1)).b < (singleF s i).b then (p, (singleF s i).j + 1, true)
      else (orP p (rng (singleF s i).b ((singleF s ((singleF s i).j + 1)).b + 1)), (singleF s ((singleF s i).j + 1)).j, false)
    else (p, (singleF s i).j + 1, true)
  else (orP p (singleF s i).p, (singleF s i).j, false)
theorem memberF_ok (s : ByteArray) (i : Nat) (p : Nat → Bool) (h : i < s.size) : ((memberF s i p).2.2 = false → i < (memberF s i p).2.1 ∧ (memberF s i p).2.1 ≤ s.size) := by
  have h1 := singleF_ok s i h
  unfold memberF
  split
  · simp
  · rename_i hb
    have hb' : (singleF s i).bad = false := by simpa using hb
    have h3 := h1.2.2.1 hb'
    split
    · split
      · rename_i h4
        have h5 := singleF_ok s _ h4
        split
        · simp
        · rename_i hb2
          have hb2' : (singleF s ((singleF s i).j + 1)).bad = false := by simpa using hb2
          have h6 := h5.2.2.1 hb2'
          split
          · simp
          · split
            · simp
            · intro _
              exact ⟨Nat.lt_trans (Nat.lt_succ_of_lt h3) h6, h5.2.1⟩
      · simp
    · intro _
      exact ⟨h3, h1.2.1⟩

end Go.Proofs.YtpboaadjbkaidaaDoor
