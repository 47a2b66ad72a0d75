
/-
  Plain functions for chapter 12: what the reference counts of tags, the table of rests, the canonical script; no program in sight.
-/
import Derived.Test.YteccphcophjhpaaMathSur
namespace Go.Proofs.Yteccphcophjhpaa
open Go.RowKit

/-- How often a token that is the same occurs. -/
def timesN (l : List Tk) (t : Tk) : Nat := (l.filter fun y => sameB y t).length
theorem timesN_take (l : List Tk) (t : Tk) (k : Nat) (h : k < l.length) : timesN (l.take (k + 1)) t = timesN (l.take k) t + if sameB l[k] t = true then 1 else 0 := by
  unfold timesN
  rw [List.take_succ_eq_append_getElem h, List.filter_append, List.length_append]
  congr 1
  by_cases hs : sameB l[k] t = true <;> simp [hs]
theorem timesN_le (l : List Tk) (t : Tk) : timesN l t ≤ l.length := List.length_filter_le _ _
theorem timesN_tag (l : List Tk) (t : Tk) (ht : isTagB t = true) : (timesN l t : Int) = cntI l (kf t) := by
  unfold cntI
  congr 1
  induction l with
  | nil => rfl
  | cons y l ih =>
    unfold timesN at ih ⊢
    rw [List.filter_cons, keysOf_cons]
    by_cases hs : sameB y t = true
    · have hy : isTagB y = true := by
        have := ((sameB_iff y t).1 hs).1
        unfold isTagB at ht ⊢
        rw [this]
        exact ht
      rw [if_pos hs, if_pos hy, List.length_cons, ih, (same_kf y t).1 hs, List.count_cons_self]
    · rw [if_neg hs, ih]
      by_cases hy : isTagB y = true
      · rw [if_pos hy, List.count_cons_of_ne (fun e => hs ((same_kf y t).2 e))]
      · rw [if_neg hy]

/-- Each key once, in the order of its first place. -/
def nubS (acc : List Tk) (x : Tk) : List Tk := if x ∈ acc then acc else acc ++ [x]
def nubl (l : List Tk) : List Tk := l.foldl nubS []
theorem nubl_snoc (l : List Tk) (x : Tk) : nubl (l ++ [x]) = nubS (nubl l) x := by simp [nubl]
theorem nubS_mem (acc : List Tk) (x y : Tk) : y ∈ nubS acc x ↔ y ∈ acc ∨ y = x := by
  unfold nubS
  split
  · rename_i h
    exact ⟨.inl, fun h' => h'.elim id fun e => e ▸ h⟩
  · simp
theorem nubl_mem (l : List Tk) (x : Tk) : x ∈ nubl l ↔ x ∈ l := by
  suffices h : ∀ (l acc : List Tk), x ∈ l.foldl nubS acc ↔ x ∈ acc ∨ x ∈ l by
    have := h l []
    simpa [nubl] using this
  intro l
  induction l with
  | nil => simp
  | cons y l ih =>
    intro acc
    rw [List.foldl_cons, ih, nubS_mem, List.mem_cons]
    constructor
    · rintro ((h | h) | h)
      · exact .inl h
      · exact .inr (.inl h)
      · exact .inr (.inr h)
    · rintro (h | h | h)
      · exact .inl (.inl h)
      · exact .inl (.inr h)
      · exact .inr h
theorem nodup_nubl (l : List Tk) : (nubl l).Nodup := by
  suffices h : ∀ (l acc : List Tk), acc.Nodup → (l.foldl nubS acc).Nodup from h l [] List.Pairwise.nil
  intro l
  induction l with
  | nil => intro acc h; exact h
  | cons y l ih =>
    intro acc h
    refine ih _ ?_
    unfold nubS
    split
    · exact h
    · rename_i hy
      refine List.nodup_append.2 ⟨h, by simp, fun a ha b hb e => ?_⟩
      rw [List.mem_singleton] at hb
      subst e
      exact hy (hb ▸ ha)

/-- What the reference has counted of the first list, and of the second one, behind k tokens. -/
def sA (a b : List Tk) (k : Nat) : Int := sumOn (nubl (keysOf (a.take k))) (difI a b)
def sB (a b : List Tk) (k : Nat) : Int := sumOn ((nubl (keysOf (b.take k))).filter fun x => !decide (x ∈ keysOf a)) (cntI b)
theorem sA_zero (a b : List Tk) : sA a b 0 = 0 := rfl
theorem sB_zero (a b : List Tk) : sB a b 0 = 0 := rfl
theorem keysOf_snoc (l : List Tk) (k : Nat) (h : k < l.length) : keysOf (l.take (k + 1)) = if isTagB l[k] = true then keysOf (l.take k) ++ [kf l[k]] else keysOf (l.take k) := by
  rw [keysOf_take l k h, keysOf_one]
  split
  · rfl
  · rw [List.append_nil]
theorem seen_iff (l : List Tk) (t : Tk) (ht : isTagB t = true) : timesN l t = 0 ↔ kf t ∉ keysOf l := by
  have h := timesN_tag l t ht
  constructor
  · intro h0 hm
    have : 0 < (keysOf l).count (kf t) := List.count_pos_iff.2 hm
    unfold cntI at h
    omega
  · intro hm
    have := cntI_zero hm
    omega
theorem sA_step (a b : List Tk) (k : Nat) (h : k < a.length) : sA a b (k + 1) = sA a b k + if isTagB a[k] = true ∧ timesN (a.take k) a[k] = 0 then absI ((timesN a a[k] : Int) - (timesN b a[k] : Int)) else 0 := by
  unfold sA
  rw [keysOf_snoc a k h]
  by_cases ht : isTagB a[k] = true
  · rw [if_pos ht, nubl_snoc]
    by_cases hs : timesN (a.take k) a[k] = 0
    · rw [if_pos ⟨ht, hs⟩, nubS, if_neg (by rw [nubl_mem]; exact (seen_iff _ _ ht).1 hs), sumOn_append, timesN_tag _ _ ht, timesN_tag _ _ ht]
      congr 1
      simp [sumOn, difI]
    · rw [if_neg (fun e => hs e.2), nubS, if_pos (by rw [nubl_mem]; exact Classical.byContradiction fun hn => hs ((seen_iff _ _ ht).2 hn)), Int.add_zero]
  · rw [if_neg ht, if_neg (fun e => ht e.1), Int.add_zero]
theorem sB_step (a b : List Tk) (k : Nat) (h : k < b.length) : sB a b (k + 1) = sB a b k + if isTagB b[k] = true ∧ timesN (b.take k) b[k] = 0 ∧ timesN a b[k] = 0 then (timesN b b[k] : Int) else 0 := by
  unfold sB
  rw [keysOf_snoc b k h]
  by_cases ht : isTagB b[k] = true
  · rw [if_pos ht, nubl_snoc]
    by_cases hs : timesN (b.take k) b[k] = 0
    · rw [nubS, if_neg (by rw [nubl_mem]; exact (seen_iff _ _ ht).1 hs), List.filter_append, sumOn_append]
      congr 1
      by_cases ha : timesN a b[k] = 0
      · rw [if_pos ⟨ht, hs, ha⟩, timesN_tag _ _ ht]
        have := (seen_iff a b[k] ht).1 ha
        simp [sumOn, this]
      · rw [if_neg (fun e => ha e.2.2)]
        have : kf b[k] ∈ keysOf a := Classical.byContradiction fun hn => ha ((seen_iff a b[k] ht).2 hn)
        simp [sumOn, this]
    · rw [if_neg (fun e => hs e.2.1), nubS, if_pos (by rw [nubl_mem]; exact Classical.byContradiction fun hn => hs ((seen_iff _ _ ht).2 hn)), Int.add_zero]
  · rw [if_neg ht, if_neg (fun e => ht e.1), Int.add_zero]
/-- The reference's count is the surplus. -/
theorem sup_ref (a b : List Tk) : sA a b a.length + sB a b b.length = supI a b := by
  unfold sA sB
  rw [List.take_length, List.take_length]
  have e : sumOn ((nubl (keysOf b)).filter fun x => !decide (x ∈ keysOf a)) (cntI b) = sumOn ((nubl (keysOf b)).filter fun x => !decide (x ∈ keysOf a)) (difI a b) := by
    refine sumOn_congr fun x hx => ?_
    have hx' := (List.mem_filter.1 hx).2
    have hn : x ∉ keysOf a := by simpa using hx'
    have := cntI_nonneg b x
    unfold difI absI
    rw [cntI_zero hn]
    omega
  rw [e, ← sumOn_append]
  refine (supI_on ?_ fun x hx => ?_).symm
  · refine List.nodup_append.2 ⟨nodup_nubl _, (nodup_nubl _).filter _, fun x hx y hy e => ?_⟩
    subst e
    have h1 := (nubl_mem _ _).1 hx
    have h2 := (List.mem_filter.1 hy).2
    simp [h1] at h2
  · rw [List.mem_append, nubl_mem, List.mem_filter, nubl_mem]
    by_cases ha : x ∈ keysOf a
    · exact .inl ha
    · rcases hx with h | h
      · exact absurd h ha
      · exact .inr ⟨h, by simp [ha]⟩
theorem sA_bd (a b : List Tk) (k : Nat) : 0 ≤ sA a b k := sumOn_nonneg fun x _ => difI_nonneg a b x
theorem sB_bd (a b : List Tk) (k : Nat) : 0 ≤ sB a b k := sumOn_nonneg fun x _ => cntI_nonneg b x
theorem absI_bd (z : Int) : 0 ≤ absI z := by unfold absI; omega
theorem sA_le (a b : List Tk) : ∀ d k, k + d = a.length → sA a b k ≤ sA a b a.length
  | 0, k, h => by rw [← h]; exact Int.le_refl _
  | d + 1, k, h => by
    have h1 := sA_le a b d (k + 1) (by omega)
    have h2 := sA_step a b k (by omega)
    have h3 := absI_bd ((timesN a (a[k]'(by omega)) : Int) - (timesN b (a[k]'(by omega)) : Int))
    split at h2 <;> omega
theorem sB_le (a b : List Tk) : ∀ d k, k + d = b.length → sB a b k ≤ sB a b b.length
  | 0, k, h => by rw [← h]; exact Int.le_refl _
  | d + 1, k, h => by
    have h1 := sB_le a b d (k + 1) (by omega)
    have h2 := sB_step a b k (by omega)
    split at h2 <;> omega
/-- All partial counts are small. -/
theorem sA_small (a b : List Tk) (k : Nat) (h : k ≤ a.length) : 0 ≤ sA a b k ∧ sA a b k ≤ a.length + b.length := by
  have h1 := sA_le a b (a.length - k) k (by omega)
  have h2 := sB_bd a b b.length
  have h3 := sup_ref a b
  have h4 := supI_bound a b
  exact ⟨sA_bd a b k, by omega⟩
theorem sB_small (a b : List Tk) (k : Nat) (h : k ≤ b.length) : 0 ≤ sB a b k ∧ sA a b a.length + sB a b k ≤ a.length + b.length := by
  have h1 := sB_le a b (b.length - k) k (by omega)
  have h2 := sA_bd a b a.length
  have h3 := sup_ref a b
  have h4 := supI_bound a b
  exact ⟨sB_bd a b k, by omega⟩

/-! ### The table of rests -/
def tabI (a b : List Tk) (i k : Nat) : Int := ed (a.drop i) (b.drop k)
theorem tab_end (a b : List Tk) (i k : Nat) (hi : a.length ≤ i) (hk : b.length ≤ k) : tabI a b i k = 0 := by
  unfold tabI
  rw [List.drop_of_length_le hi, List.drop_of_length_le hk]
  rfl
theorem tab_a (a b : List Tk) (i k : Nat) (hi : i < a.length) (hk : b.length ≤ k) : tabI a b i k = singleI a[i] + tabI a b (i + 1) k := by
  unfold tabI
  rw [List.drop_of_length_le hk, List.drop_eq_getElem_cons hi, ed_cn]
theorem tab_b (a b : List Tk) (i k : Nat) (hi : a.length ≤ i) (hk : k < b.length) : tabI a b i k = singleI b[k] + tabI a b i (k + 1) := by
  unfold tabI
  rw [List.drop_of_length_le hi, List.drop_eq_getElem_cons hk, ed_nc]
theorem tab_ok (a b : List Tk) (i k : Nat) (hi : i < a.length) (hk : k < b.length) (h : costOk a[i] b[k] = true) : tabI a b i k = min (min (singleI a[i] + tabI a b (i + 1) k) (singleI b[k] + tabI a b i (k + 1))) (costI a[i] b[k] + tabI a b (i + 1) (k + 1)) := by
  unfold tabI
  have e1 := List.drop_eq_getElem_cons hi
  have e2 := List.drop_eq_getElem_cons hk
  rw [e1, e2, ed_cc_ok _ _ _ _ h]
theorem tab_no (a b : List Tk) (i k : Nat) (hi : i < a.length) (hk : k < b.length) (h : costOk a[i] b[k] = false) : tabI a b i k = min (singleI a[i] + tabI a b (i + 1) k) (singleI b[k] + tabI a b i (k + 1)) := by
  unfold tabI
  have e1 := List.drop_eq_getElem_cons hi
  have e2 := List.drop_eq_getElem_cons hk
  rw [e1, e2, ed_cc_no _ _ _ _ h]
theorem tab_bd (a b : List Tk) (i k : Nat) : 0 ≤ tabI a b i k ∧ tabI a b i k ≤ 4 * a.length + 4 * b.length := by
  refine ⟨ed_nonneg _ _, ?_⟩
  have := ed_bound (a.drop i) (b.drop k)
  rw [List.length_drop, List.length_drop] at this
  unfold tabI
  omega
theorem tab_00 (a b : List Tk) : tabI a b 0 0 = ed a b := rfl

/-! ### The canonical script -/
/-- An edit. -/
structure Ed where
  A : Int
  B : Int
/-- The next edit at (i, k), if anything is left: an edit, and the next place. -/
def alnS (a b : List Tk) (i k : Nat) : Ed × Nat × Nat :=
  if h : i < a.length ∧ k < b.length then
    if costOk (a[i]'h.1) (b[k]'h.2) = true ∧ costI (a[i]'h.1) (b[k]'h.2) + tabI a b (i + 1) (k + 1) = tabI a b i k then (⟨i, k⟩, i + 1, k + 1)
    else if singleI (a[i]'h.1) + tabI a b (i + 1) k = tabI a b i k then (⟨i, -1⟩, i + 1, k) else (⟨-1, k⟩, i, k + 1)
  else if i < a.length then (⟨i, -1⟩, i + 1, k) else (⟨-1, k⟩, i, k + 1)
def alnF (a b : List Tk) : Nat → Nat → Nat → List Ed
  | 0, _, _ => []
  | n + 1, i, k => if i < a.length ∨ k < b.length then (alnS a b i k).1 :: alnF a b n (alnS a b i k).2.1 (alnS a b i k).2.2 else []
def alnL (a b : List Tk) : List Ed := alnF a b (a.length + b.length) 0 0
theorem alnS_next (a b : List Tk) (i k : Nat) (h : i < a.length ∨ k < b.length) : ((alnS a b i k).2.1 = i ∨ (alnS a b i k).2.1 = i + 1 ∧ i < a.length) ∧ ((alnS a b i k).2.2 = k ∨ (alnS a b i k).2.2 = k + 1 ∧ k < b.length) ∧ i + k < (alnS a b i k).2.1 + (alnS a b i k).2.2 := by
  unfold alnS
  split
  · rename_i h'
    split
    · exact ⟨.inr ⟨rfl, h'.1⟩, .inr ⟨rfl, h'.2⟩, by show i + k < i + 1 + (k + 1); omega⟩
    · split
      · exact ⟨.inr ⟨rfl, h'.1⟩, .inl rfl, by show i + k < i + 1 + k; omega⟩
      · exact ⟨.inl rfl, .inr ⟨rfl, h'.2⟩, by show i + k < i + (k + 1); omega⟩
  · split
    · rename_i h1
      exact ⟨.inr ⟨rfl, h1⟩, .inl rfl, by show i + k < i + 1 + k; omega⟩
    · rename_i h1
      have hk : k < b.length := by omega
      exact ⟨.inl rfl, .inr ⟨rfl, hk⟩, by show i + k < i + (k + 1); omega⟩

end Go.Proofs.Yteccphcophjhpaa
