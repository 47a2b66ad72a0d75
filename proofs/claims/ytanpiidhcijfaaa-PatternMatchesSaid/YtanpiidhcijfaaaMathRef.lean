
/-
  The reference's reading of sets against the program's. Plain.
-/
import Derived.Test.YtanpiidhcijfaaaRefB
import Derived.Test.YtanpiidhcijfaaaMathParse
namespace Go.Proofs.Ytanpiidhcijfaaa
open Go.RowKit

theorem plain_in : ∀ b : Fin 256, b.val ≠ 92 → plainB (⟨#[92, 93, 91, 94, 45]⟩ : ByteArray) b.val = (wrB b.val && !inIn b.val) := by
  intro b hb
  unfold plainB inB inIn
  congr 2
  simp only [List.any_cons, List.any_nil, Bool.or_false]
  rw [show ((92 : UInt8).toNat == b.val) = false from by simp; omega]
  simp only [Bool.false_or]
  rw [Bool.eq_iff_iff]
  simp
  omega
theorem plain_out (b : Nat) : plainB (⟨#[42, 43, 63, 40, 41, 124, 93, 123, 125]⟩ : ByteArray) b = (wrB b && !inOut b) := by
  unfold plainB inB inOut
  congr 2
  simp only [List.any_cons, List.any_nil, Bool.or_false]
  rw [Bool.eq_iff_iff]
  simp
  omega
theorem okL_cls (c : Nat) (hc : c < 256) (h : okL c = true) : clsN (c : Int) = 4 := by
  have h1 := class_none ⟨c, hc⟩
  simp only [h] at h1
  exact classP_letter ⟨c, hc⟩ h1.symm
theorem classP_okL (c : Nat) (hc : c < 256) (h : ¬ okL c = true) : classP c = none := by
  have h1 := class_none ⟨c, hc⟩
  simp only at h1
  rw [Bool.not_eq_true] at h
  rw [h] at h1
  cases hp : classP c with
  | none => rfl
  | some p => rw [hp] at h1; exact absurd h1 (by simp)
theorem esc_cls (s : ByteArray) (j : Nat) (h1 : j + 1 < s.size) (hok : okL (bt s (j + 1)) = true) : escF s j = ⟨setL (bt s (j + 1)), bt s (j + 1), false, j + 2, false⟩ := by
  have hb := bt_lt s (j + 1)
  have h4 := okL_cls _ hb hok
  unfold escF
  rw [if_pos h1, if_neg (by rw [h4]; decide), class_some _ hb hok]
theorem single_ref (s : ByteArray) (j : Nat) (hj : j < s.size) :
    ((rsF s j).2.2 = -1 ∧ (rsF s j).1 < 256 ∧ singleF s j = ⟨oneP (rsF s j).1, (rsF s j).1, true, (rsF s j).2.1, false⟩) ∨
      ∃ k : Nat, (rsF s j).2.2 = (k : Int) ∧ ((singleF s j).bad = true ∧ (singleF s j).j = k ∨ (singleF s j).bad = false ∧ (singleF s j).one = false ∧ k = j + 1 ∧ bt s j = 92 ∧ j + 1 < s.size ∧ okL (bt s (j + 1)) = true) := by
  have hb := bt_lt s (j + 1)
  have hb0 := bt_lt s j
  unfold rsF
  rw [if_neg (by omega)]
  by_cases h92 : bt s j = 92
  · rw [if_pos h92]
    have e : singleF s j = escF s j := by unfold singleF; rw [if_pos h92]
    by_cases h1 : s.size ≤ j + 1
    · rw [if_pos h1]
      refine .inr ⟨s.size, rfl, .inl ?_⟩
      rw [e]
      unfold escF
      rw [if_neg (by omega)]
      exact ⟨rfl, by show j + 1 = s.size; omega⟩
    · rw [if_neg h1]
      by_cases h5 : clsN (bt s (j + 1) : Int) = 5
      · rw [if_neg (by simpa using h5)]
        refine .inl ⟨rfl, hb, ?_⟩
        rw [e]
        unfold escF
        rw [if_pos (by omega), if_pos h5]
      · rw [if_pos h5]
        refine .inr ⟨j + 1, rfl, ?_⟩
        rw [e]
        by_cases hok : okL (bt s (j + 1)) = true
        · rw [esc_cls s j (by omega) hok]
          exact .inr ⟨rfl, rfl, rfl, h92, by omega, hok⟩
        · unfold escF
          rw [if_pos (by omega), if_neg h5, classP_okL _ hb hok]
          exact .inl ⟨rfl, rfl⟩
  · rw [if_neg h92]
    have hp := plain_in ⟨bt s j, hb0⟩ h92
    simp only at hp
    rw [hp]
    unfold singleF
    rw [if_neg h92]
    by_cases hw : wrB (bt s j) = true ∧ inIn (bt s j) = false
    · rw [if_pos hw, if_pos (by rw [hw.1, hw.2]; rfl)]
      exact .inl ⟨rfl, hb0, rfl⟩
    · rw [if_neg hw, if_neg (by simpa using hw)]
      exact .inr ⟨j, rfl, .inl ⟨rfl, rfl⟩⟩
theorem member_cls (s : ByteArray) (j : Nat) (p : Nat → Bool) (h92 : bt s j = 92) (h1 : j + 1 < s.size) (hok : okL (bt s (j + 1)) = true) :
    memberF s j p = (orP p (setL (bt s (j + 1))), j + 2, false) := by
  have e : singleF s j = ⟨setL (bt s (j + 1)), bt s (j + 1), false, j + 2, false⟩ := by
    unfold singleF
    rw [if_pos h92, esc_cls s j h1 hok]
  unfold memberF
  rw [e]
  simp
/-- The same member, read as the reference reads it. -/
def rmem2 (s : ByteArray) (p : Nat → Bool) (x nx : Nat) : (Nat → Bool) × Nat × Bool :=
  if nx < s.size ∧ bt s nx = 45 then
    if 0 ≤ (rsF s (nx + 1)).2.2 then (p, (rsF s (nx + 1)).2.2.toNat, true)
    else if (rsF s (nx + 1)).1 < x then (p, nx + 1, true)
    else (orP p (rng x ((rsF s (nx + 1)).1 + 1)), (rsF s (nx + 1)).2.1, false)
  else (orP p (rng x (x + 1)), nx, false)
def rmemF (s : ByteArray) (j : Nat) (p : Nat → Bool) : (Nat → Bool) × Nat × Bool :=
  if 0 ≤ (rsF s j).2.2 then (p, (rsF s j).2.2.toNat, true) else rmem2 s p (rsF s j).1 (rsF s j).2.1
theorem one_rng (p : Nat → Bool) (x : Nat) : orP p (oneP x) = orP p (rng x (x + 1)) := by
  funext n
  unfold orP oneP addP noP rng
  congr 1
  rw [Bool.or_false, Bool.eq_iff_iff]
  simp
  omega
theorem member_ref (s : ByteArray) (j : Nat) (p : Nat → Bool) (hj : j < s.size) (hc : ¬ (bt s j = 92 ∧ j + 1 < s.size ∧ okL (bt s (j + 1)) = true)) : memberF s j p = rmemF s j p := by
  rcases single_ref s j hj with ⟨h1, _, h2⟩ | ⟨k, h1, h2⟩
  · unfold memberF rmemF rmem2
    rw [h2, h1]
    rw [if_neg (show ¬ (⟨oneP (rsF s j).1, (rsF s j).1, true, (rsF s j).2.1, false⟩ : SR).bad = true from Bool.false_ne_true), if_neg (show ¬ (0 : Int) ≤ -1 by decide)]
    simp only [true_and]
    by_cases h3 : (rsF s j).2.1 < s.size ∧ bt s (rsF s j).2.1 = 45
    · rw [if_pos h3, if_pos h3]
      by_cases h4 : (rsF s j).2.1 + 1 < s.size
      · rw [if_pos h4]
        rcases single_ref s _ h4 with ⟨g1, _, g2⟩ | ⟨m, g1, g2⟩
        · rw [g2, g1]
          rw [if_neg (show ¬ (⟨oneP (rsF s ((rsF s j).2.1 + 1)).1, (rsF s ((rsF s j).2.1 + 1)).1, true, (rsF s ((rsF s j).2.1 + 1)).2.1, false⟩ : SR).bad = true from Bool.false_ne_true), if_neg (show ¬ (0 : Int) ≤ -1 by decide)]
          rw [if_neg (show ¬ (⟨oneP (rsF s ((rsF s j).2.1 + 1)).1, (rsF s ((rsF s j).2.1 + 1)).1, true, (rsF s ((rsF s j).2.1 + 1)).2.1, false⟩ : SR).one = false from fun h => Bool.noConfusion h)]
        · rw [g1, if_pos (show (0 : Int) ≤ (m : Int) by omega)]
          rcases g2 with ⟨g2, g3⟩ | ⟨g2, g3, g4, _⟩
          · rw [if_pos g2, g3]
            rfl
          · rw [if_neg (by rw [g2]; decide), if_pos g3, g4]
            rfl
      · rw [if_neg h4]
        have e : rsF s ((rsF s j).2.1 + 1) = (0, 0, (s.size : Int)) := by unfold rsF; rw [if_pos (by have := h4; unfold rsF at this; omega)]
        rw [e, if_pos (show (0 : Int) ≤ (s.size : Int) by omega)]
        have : (rsF s j).2.1 + 1 = s.size := by omega
        rw [this]
        rfl
    · rw [if_neg h3, if_neg h3, one_rng]
  · rcases h2 with ⟨h2, h3⟩ | ⟨_, _, _, h4⟩
    · unfold memberF rmemF
      rw [if_pos h2, h1, if_pos (by omega), h3]
      rfl
    · exact absurd h4 hc
theorem rs_ok (s : ByteArray) (j : Nat) (h : (rsF s j).2.2 < 0) : (rsF s j).2.2 = -1 ∧ (rsF s j).1 < 256 ∧ j < (rsF s j).2.1 ∧ (rsF s j).2.1 ≤ s.size := by
  have hb := bt_lt s (j + 1)
  have hb0 := bt_lt s j
  revert h
  unfold rsF
  split
  · intro h; exact absurd h (by simp only; omega)
  · split
    · split
      · intro h; exact absurd h (by simp only; omega)
      · split
        · intro h; exact absurd h (by simp only; omega)
        · intro _; exact ⟨rfl, hb, by simp only; omega, by simp only; omega⟩
    · split
      · intro _; exact ⟨rfl, hb0, by simp only; omega, by simp only; omega⟩
      · intro h; exact absurd h (by simp only; omega)
theorem rs_bad (s : ByteArray) (j : Nat) (hj : j ≤ s.size) (h : ¬ (rsF s j).2.2 < 0) : ∃ k : Nat, (rsF s j).2.2 = (k : Int) ∧ k ≤ s.size := by
  revert h
  unfold rsF
  split
  · exact fun _ => ⟨s.size, rfl, Nat.le_refl _⟩
  · split
    · split
      · exact fun _ => ⟨s.size, rfl, Nat.le_refl _⟩
      · split
        · exact fun _ => ⟨j + 1, rfl, by omega⟩
        · intro h; exact absurd (show (-1 : Int) < 0 by decide) h
    · split
      · intro h; exact absurd (show (-1 : Int) < 0 by decide) h
      · exact fun _ => ⟨j, rfl, hj⟩

/-- What the reference's readers of sets give. -/
def RetSet (w : World) (r : SR) (e : Ending) (w' : World) : Prop :=
  (∃ p, (r.bad = false → ∀ n, n < 256 → p n = r.p n) ∧ e = .returned (.tuple #[.agg (setC p).toArray, .int .i64 ((if r.bad = true then 0 else r.j : Nat) : Int), .int .i64 (if r.bad = true then (r.j : Int) else -1)])) ∧ Below w.heap.size w w'

end Go.Proofs.Ytanpiidhcijfaaa
