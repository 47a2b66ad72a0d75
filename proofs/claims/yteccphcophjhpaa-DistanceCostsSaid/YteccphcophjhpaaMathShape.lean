
/-
  Plain laws of chapter 11: the forms of the tokens of a text; cuts at a space. No program in sight.
-/
import Derived.Test.YteccphcophjhpaaMath11
namespace Go.Proofs.Yteccphcophjhpaa
open Go.RowKit

theorem jn_all (inner : UInt8 → Bool) (a b : UInt8) : ∀ n (l : List UInt8), l.length ≤ n → ∀ c ∈ l.take (jn inner a b l), inner c = true ∨ c = a ∨ c = b
  | 0, l, h => by
    have : l = [] := List.eq_nil_of_length_eq_zero (by omega)
    subst this
    intro c hc
    simp at hc
  | n + 1, l, h => by
    match l with
    | [] => intro c hc; simp at hc
    | [c] =>
      intro x hx
      by_cases hc : inner c = true
      · rw [jn_in _ _ _ _ _ hc, jn_nil] at hx
        simp at hx
        rw [hx]
        exact .inl hc
      · rw [jn_end _ _ _ _ (by simpa using hc)] at hx
        simp at hx
    | c :: d :: r =>
      have i1 := jn_all inner a b n (d :: r) (by simp at h ⊢; omega)
      have i2 := jn_all inner a b n r (by simp at h ⊢; omega)
      intro x hx
      by_cases hc : inner c = true
      · rw [jn_in _ _ _ _ _ hc, List.take_succ_cons] at hx
        rcases List.mem_cons.1 hx with rfl | hx
        · exact .inl hc
        · exact i1 x hx
      · by_cases hj : (c == a || c == b) = true
        · by_cases hd : inner d = true
          · rw [jn_two _ _ _ _ _ _ (by simpa using hc) hj hd, List.take_succ_cons, List.take_succ_cons] at hx
            rcases List.mem_cons.1 hx with rfl | hx
            · rcases Bool.or_eq_true_iff.1 hj with h | h
              · exact .inr (.inl (by simpa using h))
              · exact .inr (.inr (by simpa using h))
            · rcases List.mem_cons.1 hx with rfl | hx
              · exact .inl hd
              · exact i2 x hx
          · rw [jn_half _ _ _ _ _ _ (by simpa using hc) hj (by simpa using hd)] at hx
            simp at hx
        · rw [jn_out _ _ _ _ _ (by simpa using hc) (by simpa using hj)] at hx
          simp at hx

/-- The kind of the token that a byte of this class begins. -/
def kindC (c : UInt8) : Int := if clsN (c.toNat : Int) = 4 then 6 else if clsN (c.toNat : Int) = 3 then 7 else if clsN (c.toNat : Int) = 2 then 8 else 9

/-- The form of one token. -/
def TokOK (k : Int) (t : List UInt8) : Prop :=
  (∃ c r, t = c :: r ∧ kindC c = k) ∧ (k = 9 → t.length = 1) ∧ ∀ c ∈ t, (kindC c = 8 → k = 8) ∧ (k = 7 → kindC c ≠ 6)

theorem next_ok (l : List UInt8) (h : l ≠ []) : TokOK (nextL l).1 (l.take (nextL l).2) := by
  match l, h with
  | c :: r, _ =>
    by_cases h4 : clsN (c.toNat : Int) = 4
    · have hn : nextL (c :: r) = (6, 1 + jn wordB 39 45 r) := by rw [nextL, if_pos h4]
      have hk : kindC c = 6 := by rw [kindC, if_pos h4]
      rw [hn]
      show TokOK 6 ((c :: r).take (1 + jn wordB 39 45 r))
      rw [Nat.add_comm, List.take_succ_cons]
      refine ⟨⟨c, _, rfl, hk⟩, fun h => absurd h (by decide), fun x hx => ?_⟩
      rcases List.mem_cons.1 hx with rfl | hx
      · rw [hk]; exact ⟨fun h => absurd h (by decide), fun h => absurd h (by decide)⟩
      · refine ⟨fun h8 => ?_, fun h => absurd h (by decide)⟩
        exfalso
        rcases jn_all wordB 39 45 _ r (Nat.le_refl _) x hx with h | rfl | rfl
        · rw [wordB, Bool.or_eq_true_iff] at h
          unfold kindC at h8
          rcases h with h | h
          · rw [if_pos (by simpa using h)] at h8; exact absurd h8 (by decide)
          · have h3 : clsN (x.toNat : Int) = 3 := by simpa using h
            rw [if_neg (by omega), if_pos h3] at h8
            exact absurd h8 (by decide)
        · exact absurd h8 (by decide)
        · exact absurd h8 (by decide)
    by_cases h3 : clsN (c.toNat : Int) = 3
    · have hn : nextL (c :: r) = (7, 1 + jn digB 46 44 r) := by rw [nextL, if_neg h4, if_pos h3]
      have hk : kindC c = 7 := by rw [kindC, if_neg h4, if_pos h3]
      rw [hn]
      show TokOK 7 ((c :: r).take (1 + jn digB 46 44 r))
      rw [Nat.add_comm, List.take_succ_cons]
      refine ⟨⟨c, _, rfl, hk⟩, fun h => absurd h (by decide), fun x hx => ?_⟩
      rcases List.mem_cons.1 hx with rfl | hx
      · rw [hk]; exact ⟨fun h => absurd h (by decide), fun _ => by decide⟩
      · have hx2 : kindC x = 7 ∨ kindC x = 9 := by
          rcases jn_all digB 46 44 _ r (Nat.le_refl _) x hx with h | rfl | rfl
          · have h3 : clsN (x.toNat : Int) = 3 := by simpa [digB] using h
            left
            rw [kindC, if_neg (by omega), if_pos h3]
          · right; decide
          · right; decide
        rcases hx2 with h | h
        · rw [h]; exact ⟨fun h => absurd h (by decide), fun _ => by decide⟩
        · rw [h]; exact ⟨fun h => absurd h (by decide), fun _ => by decide⟩
    by_cases h2 : clsN (c.toNat : Int) = 2
    · have hn : nextL (c :: r) = (8, 1 + (r.takeWhile spB).length) := by rw [nextL, if_neg h4, if_neg h3, if_pos h2]
      have hk : kindC c = 8 := by rw [kindC, if_neg h4, if_neg h3, if_pos h2]
      rw [hn]
      show TokOK 8 ((c :: r).take (1 + (r.takeWhile spB).length))
      rw [Nat.add_comm, List.take_succ_cons]
      exact ⟨⟨c, _, rfl, hk⟩, fun h => absurd h (by decide), fun x _ => ⟨fun _ => rfl, fun h => absurd h (by decide)⟩⟩
    · have hn : nextL (c :: r) = (9, 1) := by rw [nextL, if_neg h4, if_neg h3, if_neg h2]
      have hk : kindC c = 9 := by rw [kindC, if_neg h4, if_neg h3, if_neg h2]
      rw [hn]
      show TokOK 9 ((c :: r).take 1)
      rw [List.take_succ_cons, List.take_zero]
      refine ⟨⟨c, _, rfl, hk⟩, fun _ => rfl, fun x hx => ?_⟩
      have hx : x = c := by simpa using hx
      subst hx
      rw [hk]
      exact ⟨fun h => absurd h (by decide), fun h => absurd h (by decide)⟩

theorem tw_head (p : UInt8 → Bool) (l : List UInt8) : ∀ c r, l.drop (l.takeWhile p).length = c :: r → p c = false := by
  induction l with
  | nil => intro c r h; simp at h
  | cons a l ih =>
    intro c r h
    by_cases ha : p a = true
    · rw [List.takeWhile_cons, if_pos ha, List.length_cons, List.drop_succ_cons] at h
      exact ih c r h
    · rw [List.takeWhile_cons, if_neg ha, List.length_nil, List.drop_zero] at h
      injection h with h _
      rw [← h]
      simpa using ha

/-- Behind a blank no space comes. -/
theorem next_blank (l : List UInt8) (h : l ≠ []) (hk : (nextL l).1 = 8) : ∀ c r, l.drop (nextL l).2 = c :: r → kindC c ≠ 8 := by
  match l, h with
  | a :: r, _ =>
    intro c r' hd h8
    by_cases h4 : clsN (a.toNat : Int) = 4
    · rw [nextL, if_pos h4] at hk; exact absurd (show (6 : Int) = 8 from hk) (by decide)
    by_cases h3 : clsN (a.toNat : Int) = 3
    · rw [nextL, if_neg h4, if_pos h3] at hk; exact absurd (show (7 : Int) = 8 from hk) (by decide)
    by_cases h2 : clsN (a.toNat : Int) = 2
    · have hn : nextL (a :: r) = (8, 1 + (r.takeWhile spB).length) := by rw [nextL, if_neg h4, if_neg h3, if_pos h2]
      rw [hn, Nat.add_comm, List.drop_succ_cons] at hd
      have hnc := tw_head spB r c r' hd
      have hc : spB c = true := by
        unfold kindC at h8
        unfold spB
        by_cases a4 : clsN (c.toNat : Int) = 4
        · rw [if_pos a4] at h8; exact absurd h8 (by decide)
        · rw [if_neg a4] at h8
          by_cases a3 : clsN (c.toNat : Int) = 3
          · rw [if_pos a3] at h8; exact absurd h8 (by decide)
          · rw [if_neg a3] at h8
            by_cases a2 : clsN (c.toNat : Int) = 2
            · simpa using a2
            · rw [if_neg a2] at h8; exact absurd h8 (by decide)
      rw [hnc] at hc
      exact absurd hc (by decide)
    · rw [nextL, if_neg h4, if_neg h3, if_neg h2] at hk; exact absurd (show (9 : Int) = 8 from hk) (by decide)

/-- The form of a list of tokens behind one of kind 'last'. -/
def ShapeOK : Int → List (Int × List UInt8) → Prop
  | _, [] => True
  | last, (k, t) :: r => TokOK k t ∧ ¬ (k = 8 ∧ last = 8) ∧ ShapeOK k r

theorem cut_shape (n : Nat) : ∀ (l : List UInt8) (last : Int), l.length ≤ n → (last = 8 → ∀ c r, l = c :: r → kindC c ≠ 8) → ShapeOK last (cutL l) := by
  induction n with
  | zero =>
    intro l last h _
    have : l = [] := List.eq_nil_of_length_eq_zero (by omega)
    subst this
    exact trivial
  | succ n ih =>
    intro l last h hb
    by_cases hl : l = []
    · subst hl; exact trivial
    · have hp := nextL_pos l
      have hok := next_ok l hl
      rw [cutL_cons l hl]
      refine ⟨hok, fun ⟨hk, h8⟩ => ?_, ih _ _ (by rw [List.length_drop]; omega) (fun hk c r hd => next_blank l hl hk c r hd)⟩
      obtain ⟨⟨c, r, ht, hc⟩, _⟩ := hok
      match l, hl with
      | a :: l', _ =>
        have hac : c = a := by
          have h1 : 0 < (nextL (a :: l')).2 := hp
          obtain ⟨m, hm⟩ : ∃ m, (nextL (a :: l')).2 = m + 1 := ⟨_, (Nat.sub_add_cancel hp).symm⟩
          rw [hm, List.take_succ_cons] at ht
          injection ht with ht _
          exact ht.symm
        subst hac
        exact hb h8 c l' rfl (hc.trans hk)

theorem cut_flat (n : Nat) : ∀ l : List UInt8, l.length ≤ n → ((cutL l).map (·.2)).flatten = l := by
  induction n with
  | zero =>
    intro l h
    have : l = [] := List.eq_nil_of_length_eq_zero (by omega)
    subst this
    rfl
  | succ n ih =>
    intro l h
    by_cases hl : l = []
    · subst hl; rfl
    · have hp := nextL_pos l
      rw [cutL_cons l hl, List.map_cons, List.flatten_cons, ih _ (by rw [List.length_drop]; omega)]
      exact List.take_append_drop _ _

end Go.Proofs.Yteccphcophjhpaa
