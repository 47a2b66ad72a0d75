
/-
  The fixed example of chapter 12, and what tokens of a made fragment keep to.
-/
import Derived.Test.YteccphcophjhpaaMathSur
import Derived.Test.YteccphcophjhpaaMathJoin
import Derived.Test.YteccphcophjhpaaMathFrag
namespace Go.Proofs.Yteccphcophjhpaa
open Go.RowKit

theorem le_sum_mem {n : Nat} : ∀ {l : List Nat}, n ∈ l → n ≤ l.sum
  | [], h => by simp at h
  | a :: l, h => by
    rw [List.sum_cons]
    rcases List.mem_cons.1 h with rfl | h
    · omega
    · have := le_sum_mem h
      omega
theorem tokens_ok (f : List Tk) (h : Kinds f) : ∀ x ∈ tokensL f, (2 ≤ x.k ∧ x.k ≤ 9) ∧ x.t.size ≤ bytesOf f := by
  induction f with
  | nil => intro x hx; simp [tokensL] at hx
  | cons y f ih =>
    intro x hx
    have h2 : tokensL (y :: f) = tok1 y ++ tokensL f := rfl
    rw [h2] at hx
    rw [bytesOf_cons]
    rcases List.mem_append.1 hx with hx | hx
    · have hy := h y (by simp)
      unfold tok1 at hx
      split at hx
      · obtain ⟨p, hp, rfl⟩ := List.mem_map.1 hx
        have hk := cut_kinds _ y.t.data.toList (Nat.le_refl _) p hp
        have hf := cut_flat _ y.t.data.toList (Nat.le_refl _)
        have hl : p.2.length ≤ ((cutL y.t.data.toList).map (·.2)).flatten.length := by
          rw [List.length_flatten]
          have : p.2.length ∈ ((cutL y.t.data.toList).map (·.2)).map List.length := List.mem_map.2 ⟨p.2, List.mem_map.2 ⟨p, hp, rfl⟩, rfl⟩
          exact le_sum_mem this
        rw [hf, ← Lib.size_eq] at hl
        refine ⟨⟨by show 2 ≤ p.1; omega, hk.2⟩, ?_⟩
        show (⟨p.2.toArray⟩ : ByteArray).size ≤ _
        rw [Lib.size_eq]
        show p.2.length ≤ _
        omega
      · split at hx
        · rename_i h5
          rw [List.mem_singleton.1 hx]
          exact ⟨⟨h5.1, by omega⟩, by omega⟩
        · simp at hx
    · obtain ⟨h1, h3⟩ := ih (fun z hz => h z (by simp [hz])) x hx
      exact ⟨h1, by omega⟩

def kA : ByteArray := ⟨#[114, 101, 100, 32, 99, 97, 114]⟩
def kB : ByteArray := ⟨#[82, 101, 100, 32, 99, 97, 114, 115]⟩
def tA : List Tk := [⟨6, ⟨#[114, 101, 100]⟩, 0⟩, ⟨8, ⟨#[32]⟩, 0⟩, ⟨6, ⟨#[99, 97, 114]⟩, 0⟩]
def tB : List Tk := [⟨6, ⟨#[82, 101, 100]⟩, 0⟩, ⟨8, ⟨#[32]⟩, 0⟩, ⟨6, ⟨#[99, 97, 114, 115]⟩, 0⟩]
def kT : Tk := ⟨2, ⟨#[98]⟩, 1⟩
def kX : Tk := ⟨6, ⟨#[120]⟩, 0⟩
theorem cut_A : cutL [114, 101, 100, 32, 99, 97, 114] = [(6, [114, 101, 100]), (8, [32]), (6, [99, 97, 114])] := by decide +kernel
theorem cut_B : cutL [82, 101, 100, 32, 99, 97, 114, 115] = [(6, [82, 101, 100]), (8, [32]), (6, [99, 97, 114, 115])] := by decide +kernel
theorem tokens_A : tokensL [⟨1, kA, 0⟩] = tA := by
  have : tokensL [⟨1, kA, 0⟩] = (cutL kA.data.toList).map tkOf ++ [] := rfl
  rw [this, show kA.data.toList = [114, 101, 100, 32, 99, 97, 114] from rfl, cut_A]
  rfl
theorem tokens_B : tokensL [⟨1, kB, 0⟩] = tB := by
  have : tokensL [⟨1, kB, 0⟩] = (cutL kB.data.toList).map tkOf ++ [] := rfl
  rw [this, show kB.data.toList = [82, 101, 100, 32, 99, 97, 114, 115] from rfl, cut_B]
  rfl
theorem dist_AB : distI tA tB = 5 := by decide +kernel
theorem dist_TX : distI [kT, kX] [kX, kT] = 2 := by decide +kernel
theorem dist_TX1 : distI [kT, kX] [kX] = 3 := by decide +kernel

end Go.Proofs.Yteccphcophjhpaa
