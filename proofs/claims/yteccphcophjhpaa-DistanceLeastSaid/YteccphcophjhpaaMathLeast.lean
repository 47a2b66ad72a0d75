
/-
  The least price of all scripts, by trying all of them. Plain.
-/
import Derived.Test.YteccphcophjhpaaMathAligns
namespace Go.Proofs.Yteccphcophjhpaa
open Go.RowKit

/-- The better one of two prices; a negative one is none. -/
def upd (best p : Int) : Int := if best < 0 ∨ p < best then p else best
def updO (best : Int) : Option Int → Int
  | none => best
  | some p => upd best p
/-- What the search returns: n bounds the edits to come. -/
def leastF (a b : List Tk) : Nat → Nat → Nat → List Ed → Int → Int
  | 0, _, _, s, best => updO best (priceO a b s)
  | n + 1, i, k, s, best =>
    if i = a.length ∧ k = b.length then updO best (priceO a b s)
    else
      let b1 := if i < a.length ∧ k < b.length then leastF a b n (i + 1) (k + 1) (s ++ [⟨i, k⟩]) best else best
      let b2 := if i < a.length then leastF a b n (i + 1) k (s ++ [⟨i, -1⟩]) b1 else b1
      if k < b.length then leastF a b n i (k + 1) (s ++ [⟨-1, k⟩]) b2 else b2
theorem price_none {a b : List Tk} {s : List Ed} (h : prF a b s ⟨0, 0, 0⟩ = none) : priceO a b s = none := by
  unfold priceO
  rw [h]
  rfl
theorem snoc_none {a b : List Tk} {s : List Ed} (e : Ed) (h : prF a b s ⟨0, 0, 0⟩ = none) : prF a b (s ++ [e]) ⟨0, 0, 0⟩ = none := by
  rw [prF_snoc, h]
  rfl
theorem least_none (a b : List Tk) : ∀ (n i k : Nat) (s : List Ed) (best : Int), prF a b s ⟨0, 0, 0⟩ = none → leastF a b n i k s best = best
  | 0, i, k, s, best, h => by rw [leastF, price_none h]; rfl
  | n + 1, i, k, s, best, h => by
    rw [leastF]
    split
    · rw [price_none h]; rfl
    · have h1 := least_none a b n (i + 1) (k + 1) (s ++ [⟨i, k⟩]) best (snoc_none _ h)
      have h2 := fun x => least_none a b n (i + 1) k (s ++ [⟨i, -1⟩]) x (snoc_none _ h)
      have h3 := fun x => least_none a b n i (k + 1) (s ++ [⟨-1, k⟩]) x (snoc_none _ h)
      simp only [h1, h2, h3]
      split <;> split <;> split <;> rfl
theorem least_some (a b : List Tk) : ∀ (n i k : Nat) (s : List Ed) (best c : Int), a.length + b.length ≤ n + i + k → i ≤ a.length → k ≤ b.length → 0 ≤ c → prF a b s ⟨0, 0, 0⟩ = some ⟨i, k, c⟩ → leastF a b n i k s best = upd best (c + tabI a b i k + 2 * supI a b)
  | 0, i, k, s, best, c, hn, hi, hk, hc, h => by
    obtain rfl : i = a.length := by omega
    obtain rfl : k = b.length := by omega
    rw [leastF]
    unfold priceO
    rw [h, tab_end a b _ _ (Nat.le_refl _) (Nat.le_refl _), Int.add_zero]
    show updO best (prE a b _) = _
    unfold prE
    rw [if_pos ⟨rfl, rfl⟩]
    rfl
  | n + 1, i, k, s, best, c, hn, hi, hk, hc, h => by
    rw [leastF]
    by_cases hd : i = a.length ∧ k = b.length
    · rw [if_pos hd]
      obtain ⟨rfl, rfl⟩ := hd
      unfold priceO
      rw [h, tab_end a b _ _ (Nat.le_refl _) (Nat.le_refl _), Int.add_zero]
      show updO best (prE a b _) = _
      unfold prE
      rw [if_pos ⟨rfl, rfl⟩]
      rfl
    · rw [if_neg hd]
      have hS := supI_nonneg a b
      have t00 := tab_bd a b i k
      have t10 := tab_bd a b (i + 1) k
      have t01 := tab_bd a b i (k + 1)
      have t11 := tab_bd a b (i + 1) (k + 1)
      by_cases h1 : i < a.length
      · have hx := single_bd a[i]
        have H2 := fun x => least_some a b n (i + 1) k (s ++ [⟨i, -1⟩]) x (c + singleI a[i]) (by omega) (by omega) hk (by omega) (by rw [prF_snoc, h]; exact prS_at_del c h1)
        by_cases h2 : k < b.length
        · have hy := single_bd b[k]
          have hcb := costI_bd a[i] b[k]
          have H3 := fun x => least_some a b n i (k + 1) (s ++ [⟨-1, k⟩]) x (c + singleI b[k]) (by omega) hi (by omega) (by omega) (by rw [prF_snoc, h]; exact prS_at_ins c h2)
          simp only [if_pos (And.intro h1 h2), if_pos h1, if_pos h2]
          rw [H3, H2]
          by_cases hok : costOk a[i] b[k] = true
          · rw [least_some a b n (i + 1) (k + 1) (s ++ [(⟨i, k⟩ : Ed)]) best (c + costI a[i] b[k]) (by omega) (by omega) (by omega) (by omega) (by rw [prF_snoc, h]; exact prS_at_pair c h1 h2 hok)]
            have e := tab_ok a b i k h1 h2 hok
            unfold upd
            repeat' split
            all_goals omega
          · have hok' : costOk a[i] b[k] = false := by simpa using hok
            rw [least_none a b n (i + 1) (k + 1) (s ++ [(⟨i, k⟩ : Ed)]) best (by
              rw [prF_snoc, h]
              show prS a b ⟨i, k, c⟩ ⟨i, k⟩ = none
              unfold prS
              simp only
              rw [dif_pos ⟨trivial, h1⟩, dif_pos ⟨trivial, h2⟩, if_neg hok])]
            have e := tab_no a b i k h1 h2 hok'
            unfold upd
            repeat' split
            all_goals omega
        · simp only [if_neg (fun e : i < a.length ∧ k < b.length => h2 e.2), if_pos h1, if_neg h2]
          rw [H2]
          have e := tab_a a b i k h1 (by omega)
          congr 1
          omega
      · have h2 : k < b.length := by omega
        have hy := single_bd b[k]
        have H3 := fun x => least_some a b n i (k + 1) (s ++ [⟨-1, k⟩]) x (c + singleI b[k]) (by omega) hi (by omega) (by omega) (by rw [prF_snoc, h]; exact prS_at_ins c h2)
        simp only [if_neg (fun e : i < a.length ∧ k < b.length => h1 e.1), if_neg h1, if_pos h2]
        rw [H3]
        have e := tab_b a b i k (by omega) h2
        congr 1
        omega
theorem least_dist (a b : List Tk) : leastF a b (a.length + b.length) 0 0 [] (-1) = distI a b := by
  rw [least_some a b _ 0 0 [] (-1) 0 (by omega) (Nat.zero_le _) (Nat.zero_le _) (Int.le_refl _) rfl, tab_00]
  unfold upd distI
  rw [if_pos (.inl (by omega))]
  omega
theorem upd_bd (best p M : Int) (h1 : best ≤ M) (h2 : p ≤ M) (h3 : -1 ≤ best) (h4 : 0 ≤ p) : -1 ≤ upd best p ∧ upd best p ≤ M := by
  unfold upd
  split <;> omega

end Go.Proofs.Yteccphcophjhpaa
