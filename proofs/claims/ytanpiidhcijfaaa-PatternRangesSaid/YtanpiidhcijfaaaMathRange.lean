
/-
  What Parse gives for a range in brackets. Plain.
-/
import Derived.Test.YtanpiidhcijfaaaMathParse
namespace Go.Proofs.Ytanpiidhcijfaaa
open Go.RowKit

/-- A byte that stands for itself in brackets. -/
def loB (a : Nat) : Prop := wrB a = true ∧ inIn a = false ∧ a ≠ 92
theorem lo_let (x : Fin 26) : wrB (97 + x.val) = true ∧ inIn (97 + x.val) = false := by revert x; decide +kernel
theorem lo_of (x : Nat) (h : x < 26) : loB (97 + x) := ⟨(lo_let ⟨x, h⟩).1, (lo_let ⟨x, h⟩).2, by omega⟩
theorem single_lo (s : ByteArray) (i a : Nat) (h : bt s i = a) (ha : loB a) : singleF s i = ⟨oneP a, a, true, i + 1, false⟩ := by
  unfold singleF
  rw [h, if_neg ha.2.2, if_pos ⟨ha.1, ha.2.1⟩]
theorem member_rng (s : ByteArray) (i a c : Nat) (p : Nat → Bool) (hs : i + 3 < s.size) (h1 : bt s i = a) (h2 : bt s (i + 1) = 45) (h3 : bt s (i + 2) = c) (ha : loB a) (hc : loB c) :
    memberF s i p = if c < a then (p, i + 2, true) else (orP p (rng a (c + 1)), i + 3, false) := by
  unfold memberF
  rw [single_lo s i a h1 ha]
  simp only
  rw [single_lo s (i + 1 + 1) c h3 hc]
  rw [if_neg Bool.false_ne_true, if_pos ⟨trivial, by omega, h2⟩, if_pos (by omega), if_neg Bool.false_ne_true, if_neg (fun h => Bool.noConfusion h)]
theorem mems_rng (s : ByteArray) (f i a c : Nat) (hs : i + 4 ≤ s.size) (h1 : bt s i = a) (h2 : bt s (i + 1) = 45) (h3 : bt s (i + 2) = c) (h4 : bt s (i + 3) = 93) (ha : loB a) (hc : loB c) :
    memsF s (f + 2) i false noP = if c < a then (noP, i + 2, true) else (orP noP (rng a (c + 1)), i + 4, false) := by
  rw [memsF, if_pos (by omega), if_neg (by simp), member_rng s i a c noP (by omega) h1 h2 h3 ha hc]
  by_cases hca : c < a
  · rw [if_pos hca, if_pos rfl, if_pos hca]
  · rw [if_neg hca, if_neg hca, if_neg (by simp)]
    simp only
    rw [memsF, if_pos (by omega), if_pos ⟨h4, rfl⟩]
def rgP (a c : Nat) : Nat → Bool := orP noP (rng a (c + 1))
theorem rgP_at (a c b : Nat) : rgP a c b = decide (a ≤ b ∧ b < c + 1) := by
  unfold rgP orP noP rng
  rw [Bool.false_or]
theorem parse_one (s : ByteArray) (hs : 0 < s.size) (p : Nat → Bool) (b : Nat) (one : Bool) (h : outF s 0 = ⟨p, b, one, s.size, false⟩) : parseF s = ([⟨p, 1, false⟩], 0, 0) := by
  obtain ⟨m, hm⟩ : ∃ m, s.size = m + 1 := ⟨s.size - 1, by omega⟩
  have hq : quantF s s.size = (1, false, s.size) := by unfold quantF; rw [if_neg (Nat.lt_irrefl _)]
  unfold parseF
  rw [parseL, if_pos hs, if_neg (by decide), h, if_neg Bool.false_ne_true]
  simp only
  rw [hq, hm]
  simp only
  rw [parseL, if_neg (by omega)]
  rfl
theorem parse_bad (s : ByteArray) (hs : 0 < s.size) (j : Nat) (h : outF s 0 = badR j) : parseF s = ([], j, 2) := by
  unfold parseF
  rw [parseL, if_pos hs, if_neg (by decide), h, if_pos (show (badR j).bad = true from rfl)]
  rfl
theorem out_rng (s : ByteArray) (a c : Nat) (hs : s.size = 5) (h0 : bt s 0 = 91) (h1 : bt s 1 = a) (h2 : bt s 2 = 45) (h3 : bt s 3 = c) (h4 : bt s 4 = 93) (ha : loB a) (hc : loB c) :
    outF s 0 = if c < a then badR 3 else ⟨rgP a c, 0, false, 5, false⟩ := by
  have h94 : ¬ a = 94 := fun e => by have := ha.2.1; rw [e] at this; exact absurd this (by decide)
  unfold outF
  rw [h0, if_neg (by decide), if_neg (by decide), if_pos rfl]
  unfold bracketsF
  rw [if_neg (by rw [h1]; exact fun e => h94 e.2), show s.size + 1 = 4 + 2 by omega, mems_rng s _ (0 + 1) a c (by omega) h1 h2 h3 h4 ha hc]
  by_cases hca : c < a
  · rw [if_pos hca, if_pos hca]; rfl
  · rw [if_neg hca, if_neg hca]; rfl
theorem out_nrng (s : ByteArray) (a c : Nat) (hs : s.size = 6) (h0 : bt s 0 = 91) (hn : bt s 1 = 94) (h1 : bt s 2 = a) (h2 : bt s 3 = 45) (h3 : bt s 4 = c) (h4 : bt s 5 = 93) (ha : loB a) (hc : loB c) :
    outF s 0 = if c < a then badR 4 else ⟨notP (rgP a c), 0, false, 6, false⟩ := by
  unfold outF
  rw [h0, if_neg (by decide), if_neg (by decide), if_pos rfl]
  unfold bracketsF
  rw [if_pos ⟨by omega, hn⟩, show s.size + 1 = 5 + 2 by omega, mems_rng s _ (0 + 1 + 1) a c (by omega) h1 h2 h3 h4 ha hc]
  by_cases hca : c < a
  · rw [if_pos hca, if_pos hca]; rfl
  · rw [if_neg hca, if_neg hca]; rfl
/-- The two texts. -/
def rgS (x y : Nat) : ByteArray := ⟨#[91, UInt8.ofNat (97 + x), 45, UInt8.ofNat (97 + y), 93]⟩
def rgN (x y : Nat) : ByteArray := ⟨#[91, 94, UInt8.ofNat (97 + x), 45, UInt8.ofNat (97 + y), 93]⟩
theorem u8_let (x : Nat) (h : x < 26) : (UInt8.ofNat (97 + x)).toNat = 97 + x := by rw [UInt8.toNat_ofNat']; omega
theorem parse_rgS (x y : Nat) (hx : x < 26) (hy : y < 26) : parseF (rgS x y) = if y < x then ([], 3, 2) else ([⟨rgP (97 + x) (97 + y), 1, false⟩], 0, 0) := by
  have h := out_rng (rgS x y) (97 + x) (97 + y) rfl rfl (u8_let x hx) rfl (u8_let y hy) rfl (lo_of x hx) (lo_of y hy)
  by_cases hyx : y < x
  · rw [if_pos (by omega)] at h
    rw [if_pos hyx]
    exact parse_bad _ (by rw [show (rgS x y).size = 5 from rfl]; decide) 3 h
  · rw [if_neg (by omega)] at h
    rw [if_neg hyx]
    exact parse_one _ (by rw [show (rgS x y).size = 5 from rfl]; decide) _ _ _ h
theorem parse_rgN (x y : Nat) (hx : x < 26) (hy : y < 26) : parseF (rgN x y) = if y < x then ([], 4, 2) else ([⟨notP (rgP (97 + x) (97 + y)), 1, false⟩], 0, 0) := by
  have h := out_nrng (rgN x y) (97 + x) (97 + y) rfl rfl rfl (u8_let x hx) rfl (u8_let y hy) rfl (lo_of x hx) (lo_of y hy)
  by_cases hyx : y < x
  · rw [if_pos (by omega)] at h
    rw [if_pos hyx]
    exact parse_bad _ (by rw [show (rgN x y).size = 6 from rfl]; decide) 4 h
  · rw [if_neg (by omega)] at h
    rw [if_neg hyx]
    exact parse_one _ (by rw [show (rgN x y).size = 6 from rfl]; decide) _ _ _ h

end Go.Proofs.Ytanpiidhcijfaaa
