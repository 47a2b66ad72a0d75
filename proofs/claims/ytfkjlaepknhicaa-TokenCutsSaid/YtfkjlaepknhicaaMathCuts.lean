/-
  Plain law of chapter 11: a text can be divided at a space. No program in sight.
-/
import Derived.Test.YtfkjlaepknhicaaMathShape
namespace Go.Proofs.Ytfkjlaepknhicaa
open Go.RowKit

theorem jn_space (inner : UInt8 → Bool) (a b : UInt8) (u : List UInt8) (hi : inner 32 = false) (ha : ((32 : UInt8) == a || (32 : UInt8) == b) = false) : ∀ n (l : List UInt8), l.length ≤ n → jn inner a b (l ++ 32 :: u) = jn inner a b l
  | 0, l, h => by
    have : l = [] := List.eq_nil_of_length_eq_zero (by omega)
    subst this
    rw [List.nil_append, jn_out _ _ _ _ _ hi ha, jn_nil]
  | n + 1, l, h => by
    match l with
    | [] => rw [List.nil_append, jn_out _ _ _ _ _ hi ha, jn_nil]
    | [c] =>
      show jn inner a b (c :: 32 :: u) = _
      by_cases hc : inner c = true
      · rw [jn_in _ _ _ _ _ hc, jn_out _ _ _ _ _ hi ha, jn_in _ _ _ _ _ hc, jn_nil]
      · rw [jn_end _ _ _ _ (by simpa using hc)]
        by_cases hj : (c == a || c == b) = true
        · rw [jn_half _ _ _ _ _ _ (by simpa using hc) hj hi]
        · rw [jn_out _ _ _ _ _ (by simpa using hc) (by simpa using hj)]
    | c :: d :: r =>
      have i1 := jn_space inner a b u hi ha n (d :: r) (by simp at h ⊢; omega)
      have i2 := jn_space inner a b u hi ha n r (by simp at h ⊢; omega)
      show jn inner a b (c :: d :: (r ++ 32 :: u)) = _
      by_cases hc : inner c = true
      · rw [jn_in _ _ _ _ _ hc, jn_in _ _ _ _ _ hc]
        exact congrArg (· + 1) i1
      · by_cases hj : (c == a || c == b) = true
        · by_cases hd : inner d = true
          · rw [jn_two _ _ _ _ _ _ (by simpa using hc) hj hd, jn_two _ _ _ _ _ _ (by simpa using hc) hj hd, i2]
          · rw [jn_half _ _ _ _ _ _ (by simpa using hc) hj (by simpa using hd), jn_half _ _ _ _ _ _ (by simpa using hc) hj (by simpa using hd)]
        · rw [jn_out _ _ _ _ _ (by simpa using hc) (by simpa using hj), jn_out _ _ _ _ _ (by simpa using hc) (by simpa using hj)]

theorem tw_append (p : UInt8 → Bool) (r u : List UInt8) (x : UInt8) (hx : x ∈ r) (hp : p x = false) : (r ++ u).takeWhile p = r.takeWhile p := by
  induction r with
  | nil => simp at hx
  | cons c r ih =>
    rw [List.cons_append, List.takeWhile_cons, List.takeWhile_cons]
    by_cases hc : p c = true
    · rw [if_pos hc, if_pos hc]
      rcases List.mem_cons.1 hx with rfl | hx
      · rw [hp] at hc; exact absurd hc (by decide)
      · rw [ih hx]
    · rw [if_neg hc, if_neg hc]

/-- The last byte of a text is no space. -/
def NoEnd (l : List UInt8) : Prop := ∀ x, l.getLast? = some x → spB x = false

theorem next_space (l u : List UInt8) (h : l ≠ []) (he : NoEnd l) : nextL (l ++ 32 :: u) = nextL l := by
  match l, h with
  | c :: r, _ =>
    rw [List.cons_append, nextL, nextL]
    have j1 := jn_space wordB 39 45 u (by decide) (by decide) r.length r (Nat.le_refl _)
    have j2 := jn_space digB 46 44 u (by decide) (by decide) r.length r (Nat.le_refl _)
    rw [j1, j2]
    by_cases h4 : clsN (c.toNat : Int) = 4
    · rw [if_pos h4, if_pos h4]
    rw [if_neg h4, if_neg h4]
    by_cases h3 : clsN (c.toNat : Int) = 3
    · rw [if_pos h3, if_pos h3]
    rw [if_neg h3, if_neg h3]
    by_cases h2 : clsN (c.toNat : Int) = 2
    · rw [if_pos h2, if_pos h2]
      have hx : ∃ x ∈ r, spB x = false := by
        have hl : (c :: r).getLast? = some ((c :: r).getLast (by simp)) := List.getLast?_eq_some_getLast (by simp)
        have hs := he _ hl
        rcases List.mem_cons.1 (List.getLast_mem (l := c :: r) (by simp)) with hm | hm
        · rw [hm] at hs
          unfold spB at hs
          rw [h2] at hs
          exact absurd hs (by decide)
        · exact ⟨_, hm, hs⟩
      obtain ⟨x, hx, hp⟩ := hx
      rw [tw_append spB r (32 :: u) x hx hp]
    · rw [if_neg h2, if_neg h2]

theorem NoEnd.drop (l : List UInt8) (n : Nat) (h : NoEnd l) : NoEnd (l.drop n) := by
  intro x hx
  refine h x ?_
  rw [List.getLast?_drop] at hx
  split at hx
  · cases hx
  · exact hx

theorem cut_space (t : List UInt8) (ht : ∀ c r, t = c :: r → spB c = false) (n : Nat) : ∀ l : List UInt8, l.length ≤ n → NoEnd l → cutL (l ++ 32 :: t) = cutL l ++ [(8, [32])] ++ cutL t := by
  have hbase : cutL (32 :: t) = (8, [32]) :: cutL t := by
    have htw : (t.takeWhile spB).length = 0 := by
      match t with
      | [] => rfl
      | c :: r => rw [List.takeWhile_cons, if_neg (by rw [ht c r rfl]; exact Bool.false_ne_true)]; rfl
    have hn : nextL (32 :: t) = (8, 1) := by
      rw [nextL, if_neg (by decide), if_neg (by decide), if_pos (by decide), htw]
    rw [cutL_cons _ (by simp), hn]
    rfl
  induction n with
  | zero =>
    intro l h _
    have : l = [] := List.eq_nil_of_length_eq_zero (by omega)
    subst this
    rw [List.nil_append, hbase]
    rfl
  | succ n ih =>
    intro l h he
    by_cases hl : l = []
    · subst hl
      rw [List.nil_append, hbase]
      rfl
    · have hp := nextL_pos l
      have hle := nextL_le l hl
      rw [cutL_cons (l ++ 32 :: t) (by simp), next_space l t hl he, cutL_cons l hl, List.drop_append_of_le_length hle, List.take_append_of_le_length hle,
        ih _ (by rw [List.length_drop]; omega) (NoEnd.drop l _ he)]
      rfl

end Go.Proofs.Ytfkjlaepknhicaa
