
/-
  The reference's price: bounds of its sums, its steps one by one. Plain.
-/
import Derived.Test.YteccphcophjhpaaMathPrice
namespace Go.Proofs.Yteccphcophjhpaa
open Go.RowKit

theorem cnt_on (l u : List Tk) (hu : u.Nodup) : sumOn u (cntI l) ≤ l.length := by
  have h := count_sum (keysOf l) u hu
  have h2 := keysOf_length l
  have e : sumOn u (cntI l) = sumOn u (fun x => ((keysOf l).count x : Int)) := rfl
  omega
theorem fO_bd (o n : List Tk) (x : Tk) : 0 ≤ fO o n x ∧ fO o n x ≤ 3 * (cntI o x + cntI n x) := by
  have h1 := cntI_nonneg o x
  have h2 := cntI_nonneg n x
  unfold fO
  omega
theorem rO_small (o n : List Tk) (k : Nat) (_h : k ≤ o.length) : 0 ≤ rO o n k ∧ rO o n k ≤ 7 * o.length + 3 * n.length := by
  have hu := nodup_nubl (keysOf (o.take k))
  have h1 := cnt_on o _ hu
  have h2 := cnt_on n _ hu
  have h3 := wN_bd (o.take k)
  have h4 : (o.take k).length ≤ o.length := by rw [List.length_take]; omega
  have h5 : 0 ≤ sumOn (nubl (keysOf (o.take k))) (fO o n) := sumOn_nonneg fun x _ => (fO_bd o n x).1
  have h6 : sumOn (nubl (keysOf (o.take k))) (fO o n) ≤ sumOn (nubl (keysOf (o.take k))) (fun x => 3 * (cntI o x + cntI n x)) := sumOn_le fun x _ => (fO_bd o n x).2
  have h7 : sumOn (nubl (keysOf (o.take k))) (fun x => 3 * (cntI o x + cntI n x)) = 3 * (sumOn (nubl (keysOf (o.take k))) (cntI o) + sumOn (nubl (keysOf (o.take k))) (cntI n)) := by rw [sumOn_mul, sumOn_add]
  unfold rO
  omega
theorem rI_small (o n : List Tk) (k : Nat) (_h : k ≤ n.length) : 0 ≤ rI o n k ∧ rI o n k ≤ 7 * n.length := by
  have hu : ((nubl (keysOf (n.take k))).filter fun x => !decide (x ∈ keysOf o)).Nodup := (nodup_nubl (keysOf (n.take k))).filter _
  have h2 := cnt_on n _ hu
  have h3 := wN_bd (n.take k)
  have h4 : (n.take k).length ≤ n.length := by rw [List.length_take]; omega
  have h5 : 0 ≤ sumOn ((nubl (keysOf (n.take k))).filter fun x => !decide (x ∈ keysOf o)) (fun x => 3 * cntI n x) := sumOn_nonneg fun x _ => by have := cntI_nonneg n x; omega
  have h7 : sumOn ((nubl (keysOf (n.take k))).filter fun x => !decide (x ∈ keysOf o)) (fun x => 3 * cntI n x) = 3 * sumOn ((nubl (keysOf (n.take k))).filter fun x => !decide (x ∈ keysOf o)) (cntI n) := sumOn_mul _ _ _
  unfold rI
  omega
theorem rpS_ins {a b : List Tk} {i k : Nat} {p : Int} {o n : List Tk} {e : Ed} (hA : e.A = -1) (hB : e.B = k) (hk : k < b.length) : rpS a b ⟨i, k, p, o, n⟩ e = some ⟨i, k + 1, p, o, n ++ [b[k]]⟩ := by
  unfold rpS
  simp only
  rw [dif_pos ⟨hA, hB, hk⟩]
theorem rpS_del {a b : List Tk} {i k : Nat} {p : Int} {o n : List Tk} {e : Ed} (hA : e.A = i) (hi : i < a.length) (hB : e.B = -1) : rpS a b ⟨i, k, p, o, n⟩ e = some ⟨i + 1, k, p, o ++ [a[i]], n⟩ := by
  unfold rpS
  simp only
  rw [dif_neg (by omega), dif_pos ⟨hB, hA, hi⟩]
theorem rpS_pair {a b : List Tk} {i k : Nat} {p : Int} {o n : List Tk} {e : Ed} (hA : e.A = i) (hi : i < a.length) (hB : e.B = k) (hk : k < b.length) (hc : costOk a[i] b[k] = true) : rpS a b ⟨i, k, p, o, n⟩ e = some ⟨i + 1, k + 1, p + costI a[i] b[k], o, n⟩ := by
  unfold rpS
  simp only
  rw [dif_neg (by omega), dif_neg (by omega), dif_pos ⟨hA, hB, hi, hk⟩, if_pos hc]
theorem rpS_pairno {a b : List Tk} {i k : Nat} {p : Int} {o n : List Tk} {e : Ed} (hA : e.A = i) (hi : i < a.length) (hB : e.B = k) (hk : k < b.length) (hc : costOk a[i] b[k] = false) : rpS a b ⟨i, k, p, o, n⟩ e = none := by
  unfold rpS
  simp only
  rw [dif_neg (by omega), dif_neg (by omega), dif_pos ⟨hA, hB, hi, hk⟩, if_neg (by rw [hc]; decide)]
theorem rpS_bad {a b : List Tk} {i k : Nat} {p : Int} {o n : List Tk} {e : Ed} (h : ¬ ((e.A = i ∧ i < a.length) ∧ (e.B = k ∧ k < b.length)) ∧ ¬ ((e.A = i ∧ i < a.length) ∧ e.B = -1) ∧ ¬ (e.A = -1 ∧ (e.B = k ∧ k < b.length))) : rpS a b ⟨i, k, p, o, n⟩ e = none := by
  obtain ⟨h1, h2, h3⟩ := h
  unfold rpS
  simp only
  rw [dif_neg (fun e => h3 e), dif_neg (fun e => h2 ⟨e.2, e.1⟩), dif_neg (fun e => h1 ⟨⟨e.1, e.2.2.1⟩, e.2.1, e.2.2.2⟩)]
theorem rpF_cons {a b : List Tk} {e : Ed} {l : List Ed} {q : RS} : rpF a b (e :: l) q = (rpS a b q e).bind (rpF a b l) := rfl
/-- How a place of a script stands to a counter. -/
theorem ed_way' (z : Int) (i n : Nat) : (z = i ∧ i < n) ∨ (z = -1) ∨ ((z = i ∧ ¬ i < n)) ∨ ((z == (i : Int)) = false ∧ (z == -1) = false ∧ (z != -1) = true ∧ z ≠ i ∧ z ≠ -1) := by
  by_cases h1 : z = i
  · by_cases h2 : i < n
    · exact .inl ⟨h1, h2⟩
    · exact .inr (.inr (.inl ⟨h1, h2⟩))
  · by_cases h2 : z = -1
    · exact .inr (.inl h2)
    · exact .inr (.inr (.inr ⟨by simpa using h1, by simpa using h2, by simpa using h2, h1, h2⟩))

end Go.Proofs.Yteccphcophjhpaa
