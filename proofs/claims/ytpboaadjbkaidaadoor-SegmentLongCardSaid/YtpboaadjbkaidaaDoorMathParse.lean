
/-
  What Parse gives. Plain.
-/
import Derived.Test.YtpboaadjbkaidaaDoorScanG
namespace Go.Proofs.YtpboaadjbkaidaaDoor
set_option maxRecDepth 100000
open Go.RowKit

theorem memsF_ok (s : ByteArray) : ∀ (f i : Nat) (m : Bool) (p : Nat → Bool), (memsF s f i m p).2.2 = false → i < (memsF s f i m p).2.1 ∧ (memsF s f i m p).2.1 ≤ s.size
  | 0, _, _, _ => fun h => absurd h (by simp [memsF])
  | f + 1, i, m, p => by
    unfold memsF
    split
    · rename_i hi
      split
      · intro _
        exact ⟨Nat.lt_succ_self i, hi⟩
      · split
        · intro h
          exact absurd h (by simp)
        · rename_i hb
          intro h
          have h1 := memberF_ok s i p hi (by simpa using hb)
          have h2 := memsF_ok s f _ true _ h
          exact ⟨Nat.lt_trans h1.1 h2.1, h2.2⟩
    · intro h
      exact absurd h (by simp)
theorem finishF_ok (inv : Bool) (r : (Nat → Bool) × Nat × Bool) (h : (finishF inv r).bad = false) : r.2.2 = false ∧ (finishF inv r).j = r.2.1 := by
  unfold finishF at *
  by_cases hb : r.2.2 = true
  · rw [if_pos hb] at h
    exact absurd h (by simp [badR])
  · rw [if_neg hb]
    exact ⟨by simpa using hb, rfl⟩
theorem outF_ok (s : ByteArray) (i : Nat) (hi : i < s.size) (h : (outF s i).bad = false) : i < (outF s i).j ∧ (outF s i).j ≤ s.size := by
  unfold outF at *
  split at h
  · rename_i h1
    rw [if_pos h1]
    exact ⟨Nat.lt_succ_self i, hi⟩
  · rename_i h1
    rw [if_neg h1]
    split at h
    · rename_i h2
      rw [if_pos h2]
      have := escF_ok s i hi
      exact ⟨this.2.2.1 h, this.2.1⟩
    · rename_i h2
      rw [if_neg h2]
      split at h
      · rename_i h3
        rw [if_pos h3]
        unfold bracketsF at *
        split at h
        · rename_i h4
          rw [if_pos h4]
          have h5 := finishF_ok _ _ h
          have h6 := memsF_ok s _ _ _ _ h5.1
          rw [h5.2]
          exact ⟨by omega, h6.2⟩
        · rename_i h4
          rw [if_neg h4]
          have h5 := finishF_ok _ _ h
          have h6 := memsF_ok s _ _ _ _ h5.1
          rw [h5.2]
          exact ⟨by omega, h6.2⟩
      · rename_i h3
        rw [if_neg h3]
        split at h
        · rename_i h4
          rw [if_pos h4]
          exact ⟨Nat.lt_succ_self i, hi⟩
        · exact absurd h (by simp [badR])
/-- The sign behind a set. -/
def quantF (s : ByteArray) (j : Nat) : Int × Bool × Nat :=
  if j < s.size then
    if bt s j = 42 then (0, true, j + 1) else if bt s j = 43 then (1, true, j + 1) else if bt s j = 63 then (0, false, j + 1) else (1, false, j)
  else (1, false, j)
theorem quantF_ok (s : ByteArray) (j : Nat) (h : j ≤ s.size) : j ≤ (quantF s j).2.2 ∧ (quantF s j).2.2 ≤ s.size := by
  unfold quantF
  split
  · split
    · exact ⟨Nat.le_succ j, by assumption⟩
    · split
      · exact ⟨Nat.le_succ j, by assumption⟩
      · split
        · exact ⟨Nat.le_succ j, by assumption⟩
        · exact ⟨Nat.le_refl j, h⟩
  · exact ⟨Nat.le_refl j, h⟩
/-- The atoms from i on, behind those of l: the atoms, the offset, the error. -/
def parseL (s : ByteArray) : Nat → Nat → List At → List At × Nat × Int
  | 0, _, l => (l, 0, 0)
  | f + 1, i, l =>
    if i < s.size then
      if 32 ≤ l.length then ([], i, 3)
      else if (outF s i).bad = true then ([], (outF s i).j, 2)
      else parseL s f (quantF s (outF s i).j).2.2 (l ++ [⟨(outF s i).p, (quantF s (outF s i).j).1, (quantF s (outF s i).j).2.1⟩])
    else (l, 0, 0)
def parseF (s : ByteArray) : List At × Nat × Int := parseL s (s.size + 1) 0 []

end Go.Proofs.YtpboaadjbkaidaaDoor
