
/-
  Chapter 11: helpers of the statements: the fixed example, SameTokens, kind.
-/
import Derived.Test.YtiigabojncnipaaTokH
import Derived.Test.YtiigabojncnipaaTokI
import Derived.WalkSpells
namespace Go.Proofs.Ytiigabojncnipaa
open Go.RowKit

theorem RdT.one (w : World) (x : Tk) (t : TypeId) : RdT (w.alloc (.cells (tkC x).toArray t)) (.slice (some ⟨w.heap.size, 0, none⟩) 1 1) [x] := by
  refine ⟨some ⟨w.heap.size, 0, none⟩, 1, rfl, by simp, (fun h => by cases h), fun _ => ⟨w.heap.size, 0, rfl, by simp, fun i y j u hi hj => ?_⟩⟩
  have hi0 : i = 0 := by
    have := (List.getElem?_eq_some_iff.1 hi).1
    simpa using this
  subst hi0
  simp at hi
  subst hi
  have := cells_new w (tkC x) t j u hj
  rw [Addr.add_lit] at this
  simpa using this

theorem known_cut : cutL [68, 111, 110, 39, 116, 32, 112, 97, 121, 32, 49, 44, 48, 48, 48, 46, 53, 48, 32, 110, 111, 119, 33] =
    [(6, [68, 111, 110, 39, 116]), (8, [32]), (6, [112, 97, 121]), (8, [32]), (7, [49, 44, 48, 48, 48, 46, 53, 48]), (8, [32]), (6, [110, 111, 119]), (9, [33])] := by decide +kernel

def knownS : ByteArray := ⟨#[68, 111, 110, 39, 116, 32, 112, 97, 121, 32, 49, 44, 48, 48, 48, 46, 53, 48, 32, 110, 111, 119, 33]⟩
def knownT : List Tk := [⟨6, ⟨#[68, 111, 110, 39, 116]⟩, 0⟩, ⟨8, ⟨#[32]⟩, 0⟩, ⟨6, ⟨#[112, 97, 121]⟩, 0⟩, ⟨8, ⟨#[32]⟩, 0⟩, ⟨7, ⟨#[49, 44, 48, 48, 48, 46, 53, 48]⟩, 0⟩, ⟨8, ⟨#[32]⟩, 0⟩, ⟨6, ⟨#[110, 111, 119]⟩, 0⟩, ⟨9, ⟨#[33]⟩, 0⟩]
theorem known_tokens : tokensL [⟨1, knownS, 0⟩] = knownT := by
  have : tokensL [⟨1, knownS, 0⟩] = (cutL knownS.data.toList).map tkOf ++ [] := rfl
  rw [this, show knownS.data.toList = [68, 111, 110, 39, 116, 32, 112, 97, 121, 32, 49, 44, 48, 48, 48, 46, 53, 48, 32, 110, 111, 119, 33] from rfl, known_cut]
  rfl

/-- The statement's own kind of a byte. -/
def kindI (n : Int) : Int :=
  if n = 9 ∨ n = 10 ∨ n = 13 ∨ n = 32 then 8
  else if 48 ≤ n ∧ n ≤ 57 then 7
  else if (65 ≤ n ∧ n ≤ 90) ∨ (97 ≤ n ∧ n ≤ 122) ∨ 128 ≤ n then 6
  else 9
theorem kindI_8 (n : Int) : kindI n = 8 ↔ clsN n = 2 := by
  unfold kindI clsN
  constructor
  · intro h
    split at h
    · rw [if_pos (by omega)]
    · split at h <;> (try split at h) <;> omega
  · intro h
    split at h
    · rw [if_pos (by omega)]
    · split at h <;> (try split at h) <;> (try split at h) <;> omega
theorem kindI_7 (n : Int) : kindI n = 7 ↔ clsN n = 3 := by
  unfold kindI clsN
  by_cases h1 : n = 9 ∨ n = 10 ∨ n = 13 ∨ n = 32
  · rw [if_pos h1, if_pos h1]; omega
  · rw [if_neg h1, if_neg h1]
    by_cases h2 : 48 ≤ n ∧ n ≤ 57
    · rw [if_pos h2, if_neg (by omega), if_pos h2]; omega
    · rw [if_neg h2]
      repeat' split
      all_goals omega
theorem kindI_6 (n : Int) : kindI n = 6 ↔ clsN n = 4 := by
  unfold kindI clsN
  by_cases h1 : n = 9 ∨ n = 10 ∨ n = 13 ∨ n = 32
  · rw [if_pos h1, if_pos h1]; omega
  · rw [if_neg h1, if_neg h1]
    by_cases h2 : 48 ≤ n ∧ n ≤ 57
    · rw [if_pos h2, if_neg (by omega), if_pos h2]; omega
    · rw [if_neg h2]
      by_cases h3 : n < 32 ∨ n = 127
      · rw [if_pos h3, if_neg (by omega)]; omega
      · rw [if_neg h3, if_neg h2]
        by_cases h4 : (65 ≤ n ∧ n ≤ 90) ∨ (97 ≤ n ∧ n ≤ 122) ∨ 128 ≤ n
        · rw [if_pos h4, if_pos (by omega)]; omega
        · rw [if_neg h4, if_neg (by omega)]; omega
theorem kindI_set (n : Int) : kindI n = 6 ∨ kindI n = 7 ∨ kindI n = 8 ∨ kindI n = 9 := by
  unfold kindI
  repeat' split
  all_goals omega

end Go.Proofs.Ytiigabojncnipaa
