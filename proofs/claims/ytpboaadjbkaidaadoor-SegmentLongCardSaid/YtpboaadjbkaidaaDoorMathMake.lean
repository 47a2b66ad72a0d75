
/-
  What package bitextmake draws from a list of numbers, in plain words. No program in sight.
-/
import Derived.Test.YtpboaadjbkaidaaDoorMath11
import Derived.Test.YtpboaadjbkaidaaDoorMathNorm
namespace Go.Proofs.YtpboaadjbkaidaaDoor
set_option maxRecDepth 100000
open Go.RowKit

/-- The number that a call of Next gives: place N of the list, below n. -/
def nextN (L : List Int) (N : Nat) (n : Int) : Int := (L.getD N 0) % n
theorem nextN_bd (L : List Int) (N : Nat) (n : Int) (h : 1 ≤ n) : 0 ≤ nextN L N n ∧ nextN L N n < n :=
  ⟨Int.emod_nonneg _ (by omega), Int.emod_lt_of_pos _ (by omega)⟩

def words : List ByteArray := [⟨#[114, 101, 100]⟩, ⟨#[99, 97, 114]⟩, ⟨#[82, 101, 100]⟩, ⟨#[97]⟩, ⟨#[99, 97, 114, 115]⟩, ⟨#[49, 44, 53]⟩, ⟨#[50, 50]⟩, ⟨#[100, 111, 110, 39, 116]⟩, ⟨#[46]⟩, ⟨#[33]⟩, ⟨#[32]⟩, ⟨#[32, 32]⟩,
  ⟨#[60]⟩, ⟨#[38]⟩, ⟨#[123]⟩, ⟨#[34]⟩, ⟨#[92]⟩, ⟨#[120, 45, 121]⟩, ⟨#[10]⟩, ⟨#[61]⟩, ⟨#[125]⟩, ⟨#[62]⟩, ⟨#[9]⟩, ⟨#[98]⟩]
def mkWord (L : List Int) (N : Nat) : ByteArray := words.getD (nextN L N 24).toNat ⟨#[]⟩
theorem words_size : ∀ k, (words.getD k ⟨#[]⟩).size ≤ 5 := by
  intro k
  by_cases h : k < words.length
  · have : ∀ x ∈ words, x.size ≤ 5 := by decide
    rw [List.getD_eq_getElem?_getD, List.getElem?_eq_getElem h]
    exact this _ (List.getElem_mem h)
  · rw [List.getD_eq_getElem?_getD, List.getElem?_eq_none (by omega)]
    decide

/-- The rounds of Line that are left: i of them. -/
def lineGo (L : List Int) : Nat → ByteArray → Nat → ByteArray × Nat
  | 0, out, N => (out, N)
  | i + 1, out, N =>
    if 0 < out.size then
      if 0 < nextN L (N + 1) 3 then lineGo L i (out ++ ⟨#[32]⟩ ++ mkWord L N) (N + 2) else lineGo L i (out ++ mkWord L N) (N + 2)
    else lineGo L i (out ++ mkWord L N) (N + 1)
def lineL (L : List Int) (N : Nat) (n : Int) : ByteArray × Nat := lineGo L (nextN L N (n + 1)).toNat ⟨#[]⟩ (N + 1)
theorem lineGo_bd (L : List Int) : ∀ i out N, (lineGo L i out N).1.size ≤ out.size + 6 * i ∧ (lineGo L i out N).2 ≤ N + 2 * i
  | 0, out, N => ⟨Nat.le_refl _, Nat.le_refl _⟩
  | i + 1, out, N => by
    have hw : (mkWord L N).size ≤ 5 := words_size _
    rw [lineGo]
    split
    · split
      · have h := lineGo_bd L i (out ++ ⟨#[32]⟩ ++ mkWord L N) (N + 2)
        rw [ByteArray.size_append, ByteArray.size_append] at h
        have h1 : (ByteArray.mk #[32]).size = 1 := rfl
        omega
      · have h := lineGo_bd L i (out ++ mkWord L N) (N + 2)
        rw [ByteArray.size_append] at h
        omega
    · have h := lineGo_bd L i (out ++ mkWord L N) (N + 1)
      rw [ByteArray.size_append] at h
      omega
theorem lineL_bd (L : List Int) (N : Nat) (n : Int) (h : 0 ≤ n) : (lineL L N n).1.size ≤ 6 * n.toNat ∧ (lineL L N n).2 ≤ N + 1 + 2 * n.toNat := by
  have h1 := nextN_bd L N (n + 1) (by omega)
  have h2 := lineGo_bd L (nextN L N (n + 1)).toNat ⟨#[]⟩ (N + 1)
  have h3 : (ByteArray.mk #[]).size = 0 := rfl
  unfold lineL
  omega

end Go.Proofs.YtpboaadjbkaidaaDoor
