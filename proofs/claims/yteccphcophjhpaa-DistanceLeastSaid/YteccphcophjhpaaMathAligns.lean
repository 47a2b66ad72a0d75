
/-
  The canonical script costs the least; every script that fits costs no less. Plain.
-/
import Derived.Test.YteccphcophjhpaaMathPriceB
namespace Go.Proofs.Yteccphcophjhpaa
open Go.RowKit

theorem prS_at_pair {a b : List Tk} {i k : Nat} (s : Int) (hi : i < a.length) (hk : k < b.length) (hc : costOk a[i] b[k] = true) : prS a b ⟨i, k, s⟩ ⟨i, k⟩ = some ⟨i + 1, k + 1, s + costI a[i] b[k]⟩ := by
  unfold prS
  simp only
  rw [dif_pos ⟨trivial, hi⟩, dif_pos ⟨trivial, hk⟩, if_pos hc]
theorem prS_at_del {a b : List Tk} {i k : Nat} (s : Int) (hi : i < a.length) : prS a b ⟨i, k, s⟩ ⟨i, -1⟩ = some ⟨i + 1, k, s + singleI a[i]⟩ := by
  unfold prS
  simp only
  rw [dif_pos ⟨trivial, hi⟩, dif_neg (by omega), if_pos trivial]
theorem prS_at_ins {a b : List Tk} {i k : Nat} (s : Int) (hk : k < b.length) : prS a b ⟨i, k, s⟩ ⟨-1, k⟩ = some ⟨i, k + 1, s + singleI b[k]⟩ := by
  unfold prS
  simp only
  rw [dif_neg (by omega), if_pos trivial, dif_pos ⟨trivial, hk⟩]
theorem aln_step (a b : List Tk) (i k : Nat) (s : Int) (h : i < a.length ∨ k < b.length) : prS a b ⟨i, k, s⟩ (alnS a b i k).1 = some ⟨(alnS a b i k).2.1, (alnS a b i k).2.2, s + tabI a b i k - tabI a b (alnS a b i k).2.1 (alnS a b i k).2.2⟩ := by
  unfold alnS
  split
  · rename_i hq
    split
    · rename_i hc
      show prS a b ⟨i, k, s⟩ ⟨i, k⟩ = some ⟨i + 1, k + 1, s + tabI a b i k - tabI a b (i + 1) (k + 1)⟩
      rw [prS_at_pair s hq.1 hq.2 hc.1]
      have := hc.2
      congr 2
      omega
    · rename_i hc
      split
      · rename_i h1
        show prS a b ⟨i, k, s⟩ ⟨i, -1⟩ = some ⟨i + 1, k, s + tabI a b i k - tabI a b (i + 1) k⟩
        rw [prS_at_del s hq.1]
        congr 2
        omega
      · rename_i h1
        show prS a b ⟨i, k, s⟩ ⟨-1, k⟩ = some ⟨i, k + 1, s + tabI a b i k - tabI a b i (k + 1)⟩
        rw [prS_at_ins s hq.2]
        have e : tabI a b i k = singleI (b[k]'hq.2) + tabI a b i (k + 1) := by
          by_cases hok : costOk (a[i]'hq.1) (b[k]'hq.2) = true
          · have e1 := tab_ok a b i k hq.1 hq.2 hok
            have n1 : ¬ costI (a[i]'hq.1) (b[k]'hq.2) + tabI a b (i + 1) (k + 1) = tabI a b i k := fun e => hc ⟨hok, e⟩
            omega
          · have e1 := tab_no a b i k hq.1 hq.2 (by simpa using hok)
            omega
        congr 2
        omega
  · rename_i hq
    split
    · rename_i h1
      show prS a b ⟨i, k, s⟩ ⟨i, -1⟩ = some ⟨i + 1, k, s + tabI a b i k - tabI a b (i + 1) k⟩
      rw [prS_at_del s h1]
      have := tab_a a b i k h1 (by omega)
      congr 2
      omega
    · rename_i h1
      have hk : k < b.length := by omega
      show prS a b ⟨i, k, s⟩ ⟨-1, k⟩ = some ⟨i, k + 1, s + tabI a b i k - tabI a b i (k + 1)⟩
      rw [prS_at_ins s hk]
      have := tab_b a b i k (by omega) hk
      congr 2
      omega
theorem aln_price (a b : List Tk) : ∀ (n i k : Nat) (s : Int), i ≤ a.length → k ≤ b.length → a.length + b.length ≤ n + i + k → prF a b (alnF a b n i k) ⟨i, k, s⟩ = some ⟨a.length, b.length, s + tabI a b i k⟩
  | 0, i, k, s, hi, hk, h => by
    obtain rfl : i = a.length := by omega
    obtain rfl : k = b.length := by omega
    rw [alnF, tab_end a b _ _ (Nat.le_refl _) (Nat.le_refl _), Int.add_zero]
    rfl
  | n + 1, i, k, s, hi, hk, h => by
    rw [alnF]
    by_cases hd : i < a.length ∨ k < b.length
    · rw [if_pos hd]
      have h1 := alnS_next a b i k hd
      show (prS a b ⟨i, k, s⟩ (alnS a b i k).1).bind (prF a b _) = _
      rw [aln_step a b i k s hd]
      show prF a b _ _ = _
      rw [aln_price a b n _ _ _ (by omega) (by omega) (by omega)]
      congr 2
      omega
    · rw [if_neg hd]
      obtain rfl : i = a.length := by omega
      obtain rfl : k = b.length := by omega
      rw [tab_end a b _ _ (Nat.le_refl _) (Nat.le_refl _), Int.add_zero]
      rfl
/-- The canonical script's price is the distance. -/
theorem price_aln (a b : List Tk) : priceO a b (alnL a b) = some (distI a b) := by
  unfold priceO alnL
  rw [aln_price a b _ 0 0 0 (Nat.zero_le _) (Nat.zero_le _) (by omega)]
  show prE a b _ = _
  unfold prE
  rw [if_pos ⟨rfl, rfl⟩, tab_00]
  unfold distI
  simp
theorem prF_snoc (a b : List Tk) (e : Ed) : ∀ (l : List Ed) (q : PS), prF a b (l ++ [e]) q = (prF a b l q).bind fun q' => prS a b q' e
  | [], q => by
    show (prS a b q e).bind (prF a b []) = prS a b q e
    cases prS a b q e <;> rfl
  | x :: l, q => by
    show (prS a b q x).bind (prF a b (l ++ [e])) = ((prS a b q x).bind (prF a b l)).bind fun q' => prS a b q' e
    cases h : prS a b q x with
    | none => rfl
    | some q' => exact prF_snoc a b e l q'
/-- A script under way: it fits so far, and no way on is cheaper than the least. -/
structure Way (a b : List Tk) (l : List Ed) (i k : Nat) (s : Int) : Prop where
  at_ : prF a b l ⟨0, 0, 0⟩ = some ⟨i, k, s⟩
  le : ed a b ≤ s + tabI a b i k
theorem Way.start (a b : List Tk) : Way a b [] 0 0 0 := ⟨rfl, by rw [tab_00]; omega⟩
theorem Way.pair {a b : List Tk} {l : List Ed} {i k : Nat} {s : Int} (h : Way a b l i k s) (hi : i < a.length) (hk : k < b.length) (hc : costOk a[i] b[k] = true) : Way a b (l ++ [⟨i, k⟩]) (i + 1) (k + 1) (s + costI a[i] b[k]) := by
  refine ⟨by rw [prF_snoc, h.at_]; exact prS_at_pair s hi hk hc, ?_⟩
  have h1 := h.le
  have h2 := tab_ok a b i k hi hk hc
  omega
theorem Way.del {a b : List Tk} {l : List Ed} {i k : Nat} {s : Int} (h : Way a b l i k s) (hi : i < a.length) : Way a b (l ++ [⟨i, -1⟩]) (i + 1) k (s + singleI a[i]) := by
  refine ⟨by rw [prF_snoc, h.at_]; exact prS_at_del s hi, ?_⟩
  have h1 := h.le
  by_cases hk : k < b.length
  · by_cases hc : costOk a[i] b[k] = true
    · have := tab_ok a b i k hi hk hc; omega
    · have := tab_no a b i k hi hk (by simpa using hc); omega
  · have := tab_a a b i k hi (by omega); omega
theorem Way.ins {a b : List Tk} {l : List Ed} {i k : Nat} {s : Int} (h : Way a b l i k s) (hk : k < b.length) : Way a b (l ++ [⟨-1, k⟩]) i (k + 1) (s + singleI b[k]) := by
  refine ⟨by rw [prF_snoc, h.at_]; exact prS_at_ins s hk, ?_⟩
  have h1 := h.le
  by_cases hi : i < a.length
  · by_cases hc : costOk a[i] b[k] = true
    · have := tab_ok a b i k hi hk hc; omega
    · have := tab_no a b i k hi hk (by simpa using hc); omega
  · have := tab_b a b i k (by omega) hk; omega
theorem Way.done {a b : List Tk} {l : List Ed} {i k : Nat} {s : Int} (h : Way a b l i k s) (hi : i = a.length) (hk : k = b.length) : priceO a b l = some (s + 2 * supI a b) ∧ distI a b ≤ s + 2 * supI a b := by
  subst hi hk
  have h1 := h.le
  rw [tab_end a b _ _ (Nat.le_refl _) (Nat.le_refl _)] at h1
  refine ⟨?_, by unfold distI; omega⟩
  unfold priceO
  rw [h.at_]
  show prE a b _ = _
  unfold prE
  rw [if_pos ⟨rfl, rfl⟩]

end Go.Proofs.Yteccphcophjhpaa
