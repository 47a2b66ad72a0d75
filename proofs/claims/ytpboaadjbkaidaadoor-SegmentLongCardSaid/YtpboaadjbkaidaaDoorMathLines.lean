
/-
  The words of a line and the lines of a text. Plain.
-/
import Derived.Lib.SplitLaws
import Derived.Lib.Split
import Derived.Lib.IndexMore
namespace Go.Proofs.YtpboaadjbkaidaaDoor
set_option maxRecDepth 100000
open Go.Lib

/-- The words of the rest of a line, the bytes cur of the word under way read already. -/
def wordsA : List UInt8 → List UInt8 → List (List UInt8)
  | cur, [] => if cur = [] then [] else [cur]
  | cur, b :: l => if b = 32 then (if cur = [] then [] else [cur]) ++ wordsA [] l else wordsA (cur ++ [b]) l
def wordsL (l : List UInt8) : List (List UInt8) := wordsA [] l
theorem wordsA_pre : ∀ (p cur l : List UInt8), (∀ b ∈ p, b ≠ 32) → wordsA cur (p ++ l) = wordsA (cur ++ p) l
  | [], cur, l, _ => by simp
  | b :: p, cur, l, h => by
    rw [List.cons_append, wordsA, if_neg (h b (by simp)), wordsA_pre p (cur ++ [b]) l (fun x hx => h x (by simp [hx]))]
    simp
theorem wordsL_end (p : List UInt8) (h : ∀ b ∈ p, b ≠ 32) : wordsL p = if p = [] then [] else [p] := by
  have := wordsA_pre p [] [] h
  rw [List.append_nil, List.nil_append] at this
  unfold wordsL
  rw [this, wordsA]
theorem wordsL_sep (p l : List UInt8) (h : ∀ b ∈ p, b ≠ 32) : wordsL (p ++ 32 :: l) = (if p = [] then [] else [p]) ++ wordsL l := by
  unfold wordsL
  rw [wordsA_pre p [] (32 :: l) h, wordsA, if_pos rfl, List.nil_append]
theorem wordsL_ne (l : List UInt8) : ∀ w ∈ wordsL l, w ≠ [] := by
  have : ∀ (l cur : List UInt8), ∀ w ∈ wordsA cur l, w ≠ [] := by
    intro l
    induction l with
    | nil =>
      intro cur w hw
      rw [wordsA] at hw
      split at hw
      · simp at hw
      · simp at hw; subst hw; assumption
    | cons b l ih =>
      intro cur w hw
      rw [wordsA] at hw
      split at hw
      · rcases List.mem_append.1 hw with hw | hw
        · split at hw
          · simp at hw
          · simp at hw; subst hw; assumption
        · exact ih [] w hw
      · exact ih _ w hw
  exact this l []

/-- The lines of a text. -/
def linesL : List UInt8 → List (List UInt8)
  | [] => []
  | b :: l => if b = 10 then [] :: linesL l else match linesL l with
    | [] => [[b]]
    | x :: xs => (b :: x) :: xs
theorem linesL_end : ∀ (p : List UInt8), (∀ b ∈ p, b ≠ 10) → linesL p = if p = [] then [] else [p]
  | [], _ => rfl
  | b :: p, h => by
    rw [linesL, if_neg (h b (by simp)), linesL_end p (fun x hx => h x (by simp [hx]))]
    cases p <;> simp
theorem linesL_sep : ∀ (p l : List UInt8), (∀ b ∈ p, b ≠ 10) → linesL (p ++ 10 :: l) = p :: linesL l
  | [], l, _ => by rw [List.nil_append, linesL, if_pos rfl]
  | b :: p, l, h => by
    rw [List.cons_append, linesL, if_neg (h b (by simp)), linesL_sep p l (fun x hx => h x (by simp [hx]))]

/-- The first place of a byte. -/
theorem index_one_miss (c : UInt8) : ∀ l : List UInt8, (∀ b ∈ l, b ≠ c) → index l [c] = -1
  | [], _ => rfl
  | b :: l, h => by
    have hb : b ≠ c := h b (by simp)
    have ih := index_one_miss c l (fun x hx => h x (by simp [hx]))
    unfold index
    simp [List.isPrefixOf, hb.symm, ih]
theorem index_one_hit (c : UInt8) : ∀ p l : List UInt8, (∀ b ∈ p, b ≠ c) → index (p ++ c :: l) [c] = p.length
  | [], l, _ => by
    unfold index
    simp [List.isPrefixOf]
  | b :: p, l, h => by
    have hb : b ≠ c := h b (by simp)
    have ih := index_one_hit c p l (fun x hx => h x (by simp [hx]))
    rw [List.cons_append]
    unfold index
    simp [List.isPrefixOf, hb.symm, ih]
theorem parted (c : UInt8) : ∀ l : List UInt8, (∀ b ∈ l, b ≠ c) ∨ ∃ p r, l = p ++ c :: r ∧ ∀ b ∈ p, b ≠ c
  | [] => .inl (by simp)
  | b :: l => by
    by_cases hb : b = c
    · exact .inr ⟨[], l, by rw [hb]; rfl, by simp⟩
    · rcases parted c l with h | ⟨p, r, rfl, h⟩
      · refine .inl fun x hx => ?_
        rcases List.mem_cons.1 hx with rfl | hx
        · exact hb
        · exact h x hx
      · refine .inr ⟨b :: p, r, rfl, fun x hx => ?_⟩
        rcases List.mem_cons.1 hx with rfl | hx
        · exact hb
        · exact h x hx
/-- Cut at a line's end: the first line and the rest. -/
theorem cut_lines (l : List UInt8) (h : l ≠ []) : linesL l = (cut l [10]).1 :: linesL (cut l [10]).2.1 := by
  rcases parted 10 l with hm | ⟨p, r, rfl, hm⟩
  · unfold cut
    rw [index_one_miss 10 l hm, if_neg (by decide), linesL_end l hm, if_neg h]
    rfl
  · unfold cut
    rw [index_one_hit 10 p r hm, if_pos (by omega), linesL_sep p r hm]
    simp
theorem cut_len (l : List UInt8) (h : l ≠ []) : (cut l [10]).2.1.length < l.length := by
  have h0 : 0 < l.length := List.length_pos_iff.2 h
  rcases parted 10 l with hm | ⟨p, r, rfl, hm⟩
  · unfold cut
    rw [index_one_miss 10 l hm, if_neg (by decide)]
    simpa using h0
  · unfold cut
    rw [index_one_hit 10 p r hm, if_pos (by omega)]
    simp
    omega
theorem cut_fst (l : List UInt8) : (cut l [10]).1.length ≤ l.length := by
  unfold cut
  split
  · simp; omega
  · exact Nat.le_refl _
/-- The pieces between spaces, without the empty ones, are the words. -/
theorem split_words : ∀ (k : Nat) (l : List UInt8), l.count 32 = k → (splitK [32] 0 k l).filter (fun x => x ≠ []) = wordsL l
  | 0, l, h => by
    have hm : ∀ b ∈ l, b ≠ 32 := fun b hb e => by
      subst e
      exact absurd (List.count_pos_iff.2 hb) (by omega)
    rw [splitK, wordsL_end l hm]
    by_cases he : l = []
    · subst he; simp
    · rw [if_neg he, List.filter_cons_of_pos (by simpa using he)]; rfl
  | k + 1, l, h => by
    rcases parted 32 l with hm | ⟨p, r, rfl, hm⟩
    · have : l.count 32 = 0 := List.count_eq_zero.2 (fun hb => hm 32 hb rfl)
      omega
    · have hp : p.count 32 = 0 := List.count_eq_zero.2 (fun hb => hm 32 hb rfl)
      rw [splitK, index_one_hit 32 p r hm, if_neg (by simp), wordsL_sep p r hm]
      have hr : r.count 32 = k := by
        rw [List.count_append, hp] at h
        simp at h
        omega
      have e1 : ((p.length : Int)).toNat + 0 = p.length := by simp
      have e2 : ((p.length : Int)).toNat + [(32 : UInt8)].length = p.length + 1 := by simp
      rw [e1, e2, List.take_left, show (p ++ 32 :: r).drop (p.length + 1) = r by rw [List.drop_append, List.drop_eq_nil_of_le (by omega), show p.length + 1 - p.length = 1 by omega]; rfl]
      by_cases he : p = []
      · subst he
        rw [if_pos rfl, List.filter_cons_of_neg (by simp), split_words k r hr]
        rfl
      · rw [if_neg he, List.filter_cons_of_pos (by simpa using he), split_words k r hr]
        rfl

end Go.Proofs.YtpboaadjbkaidaaDoor
