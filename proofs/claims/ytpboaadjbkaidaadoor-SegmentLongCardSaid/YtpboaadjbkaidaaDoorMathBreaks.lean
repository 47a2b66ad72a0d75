
/-
  Breaks by places. Plain.
-/
import Derived.Test.YtpboaadjbkaidaaDoorMathTab
namespace Go.Proofs.YtpboaadjbkaidaaDoor
set_option maxRecDepth 100000
open Go.RowKit

theorem extract_size (s : ByteArray) (a b : Nat) (hab : a ≤ b) (hb : b ≤ s.size) : (s.extract a b).size = b - a := by
  rw [ByteArray.size_extract]
  omega
theorem ends_suf (p : List At) (s : ByteArray) (i : Nat) (h : i ≤ s.size) : reachF s p allF i = suffixF p (s.extract 0 i) := by
  have hz := extract_size s 0 i (Nat.zero_le _) h
  rw [Nat.sub_zero] at hz
  rw [Bool.eq_iff_iff, reach_lang, suffix_lang, hz]
  have e : ∀ j, j ≤ i → seg (s.extract 0 i) j i = seg s j i := fun j hj => by
    have := seg_same (s := s.extract 0 i) (t := s) (i := j) (n := i) (d := 0) (fun k h1 h2 => by rw [bt_extract s 0 i k (by omega) h, Nat.zero_add, Nat.add_zero]) hj
    simpa using this
  constructor
  · rintro ⟨j, hj, _, hl⟩
    exact ⟨j, hj, by rw [e j hj]; exact hl⟩
  · rintro ⟨j, hj, hl⟩
    exact ⟨j, hj, rfl, by rw [← e j hj]; exact hl⟩
theorem ends_pre (p : List At) {s t : ByteArray} (hst : t.size = s.size) (h : ∀ k, k < s.size → bt t k = bt s (s.size - 1 - k)) (k : Nat) (hk : k ≤ s.size) : reachF t p.reverse allF (s.size - k) = prefixF p (s.extract k s.size) := by
  have hz := extract_size s k s.size hk (Nat.le_refl _)
  rw [Bool.eq_iff_iff, reach_lang, prefix_lang, hz]
  have e : ∀ n, n ≤ s.size - k → seg (s.extract k s.size) 0 n = seg s k (k + n) := fun n hn => by
    have := seg_same (s := s.extract k s.size) (t := s) (i := 0) (n := n) (d := k) (fun j _ h2 => by rw [bt_extract s k s.size j (by omega) (Nat.le_refl _), Nat.add_comm]) (Nat.zero_le _)
    rw [this, Nat.zero_add, Nat.add_comm n k]
  constructor
  · rintro ⟨j, hj, _, hl⟩
    refine ⟨s.size - k - j, by omega, ?_⟩
    rw [e _ (by omega), show k + (s.size - k - j) = s.size - j by omega, ← lang_rev, ← seg_rev hst h k (s.size - j) (by omega) (by omega), show s.size - (s.size - j) = j by omega]
    exact hl
  · rintro ⟨n, hn, hl⟩
    refine ⟨s.size - k - n, by omega, rfl, ?_⟩
    have := seg_rev hst h k (k + n) (by omega) (by omega)
    rw [show s.size - (k + n) = s.size - k - n by omega] at this
    rw [this, lang_rev, ← e n hn]
    exact hl
def applyF (r : Ru) (s : ByteArray) (k : Nat) : Bool := suffixF r.bf (s.extract 0 k) && prefixF r.af (s.extract k s.size)
def foundF (rs : List Ru) (s : ByteArray) (k : Nat) : Bool := rs.any fun r => applyF r s k
theorem decide_cons (r : Ru) (rs : List Ru) (s : ByteArray) (k : Nat) : decideF (r :: rs) s k = if applyF r s k = true then r.br else decideF rs s k := rfl
theorem decide_none : ∀ (rs : List Ru) (s : ByteArray) (k : Nat), foundF rs s k = false → decideF rs s k = false
  | [], _, _, _ => rfl
  | r :: rs, s, k, h => by
    unfold foundF at h
    rw [List.any_cons, Bool.or_eq_false_iff] at h
    rw [decide_cons, if_neg (by rw [h.1]; exact Bool.false_ne_true)]
    exact decide_none rs s k h.2
theorem decide_append : ∀ (rs qs : List Ru) (s : ByteArray) (k : Nat), decideF (rs ++ qs) s k = if foundF rs s k = true then decideF rs s k else decideF qs s k
  | [], qs, s, k => rfl
  | r :: rs, qs, s, k => by
    rw [List.cons_append, decide_cons, decide_cons]
    have e : foundF (r :: rs) s k = (applyF r s k || foundF rs s k) := rfl
    by_cases h : applyF r s k = true
    · rw [if_pos h, if_pos h, if_pos (by rw [e, h]; rfl)]
    · rw [if_neg h, if_neg h, decide_append rs qs s k, e, Bool.not_eq_true] at *
      rw [h, Bool.false_or]
theorem decide_snoc (rs : List Ru) (r : Ru) (s : ByteArray) (k : Nat) : decideF (rs ++ [r]) s k = if foundF rs s k = true then decideF rs s k else (applyF r s k && r.br) := by
  rw [decide_append]
  congr 1
  rw [decide_cons]
  cases applyF r s k <;> rfl
theorem found_snoc (rs : List Ru) (r : Ru) (s : ByteArray) (k : Nat) : foundF (rs ++ [r]) s k = (foundF rs s k || applyF r s k) := by
  unfold foundF
  rw [List.any_append]
  simp

/-- The places below k with a break. -/
def uptoN (f : Nat → Bool) (k : Nat) : List Int := ((List.range k).filter f).map fun (n : Nat) => (n : Int)
theorem uptoN_zero (f : Nat → Bool) : uptoN f 0 = [] := rfl
theorem uptoN_succ (f : Nat → Bool) (k : Nat) : uptoN f (k + 1) = uptoN f k ++ if f k = true then [(k : Int)] else [] := by
  unfold uptoN
  rw [List.range_succ, List.filter_append, List.map_append]
  congr 1
  by_cases h : f k = true
  · rw [if_pos h, List.filter_cons_of_pos h]; rfl
  · rw [if_neg h, List.filter_cons_of_neg h]; rfl
theorem uptoN_len (f : Nat → Bool) : ∀ k, (uptoN f k).length ≤ k
  | 0 => by simp [uptoN]
  | k + 1 => by
    have := uptoN_len f k
    rw [uptoN_succ, List.length_append]
    split <;> simp <;> omega
theorem uptoN_congr {f g : Nat → Bool} : ∀ {k : Nat}, (∀ i, i < k → f i = g i) → uptoN f k = uptoN g k
  | 0, _ => rfl
  | k + 1, h => by rw [uptoN_succ, uptoN_succ, uptoN_congr (fun i hi => h i (by omega)), h k (by omega)]
def inB (rs : List Ru) (s : ByteArray) (k : Nat) : Bool := decide (0 < k) && decideF rs s k
theorem breaks_upto (rs : List Ru) (s : ByteArray) (h : s.size ≤ 1024) : breaksF rs s = uptoN (inB rs s) s.size := by
  unfold breaksF
  rw [if_neg (by omega)]
  rfl
/-- The row of Bools that the program makes. -/
def rowB (rs : List Ru) (s : ByteArray) (k : Nat) : Bool := decide (0 < k ∧ k < s.size) && decideF rs s k
theorem breaks_row (rs : List Ru) (s : ByteArray) (h : s.size ≤ 1024) : uptoN (rowB rs s) (s.size + 1) = breaksF rs s := by
  rw [uptoN_succ, if_neg (by unfold rowB; simp), List.append_nil, breaks_upto rs s h]
  refine uptoN_congr fun i hi => ?_
  unfold rowB inB
  congr 1
  rw [decide_eq_decide]
  omega

end Go.Proofs.YtpboaadjbkaidaaDoor
