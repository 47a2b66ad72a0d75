
/-
  What patterns match, as words. Plain.
-/
import Derived.Test.YtpboaadjbkaidaaDoorMathMatch
namespace Go.Proofs.YtpboaadjbkaidaaDoor
set_option maxRecDepth 100000
open Go.RowKit

/-- The words of an atom. -/
def inA (x : At) (u : List Nat) : Prop := (u = [] ∧ x.mn < 1) ∨ (u ≠ [] ∧ (∀ b ∈ u, x.p b = true) ∧ (u.length = 1 ∨ x.many = true))
/-- The words of a pattern. -/
def Lang : List At → List Nat → Prop
  | [], u => u = []
  | x :: p, u => ∃ a b, u = a ++ b ∧ inA x a ∧ Lang p b

theorem lang_append : ∀ (p q : List At) (u : List Nat), Lang (p ++ q) u ↔ ∃ a b, u = a ++ b ∧ Lang p a ∧ Lang q b
  | [], q, u => ⟨fun h => ⟨[], u, rfl, rfl, h⟩, fun ⟨a, b, h1, h2, h3⟩ => by
      have h2' : a = [] := h2
      subst h2'
      rw [h1]
      exact h3⟩
  | x :: p, q, u => ⟨fun ⟨a, b, h1, h2, h3⟩ => by
      obtain ⟨c, d, h4, h5, h6⟩ := (lang_append p q b).1 h3
      exact ⟨a ++ c, d, by rw [h1, h4, List.append_assoc], ⟨a, c, rfl, h2, h5⟩, h6⟩, fun ⟨a, b, h1, ⟨c, d, h4, h5, h6⟩, h3⟩ =>
      ⟨c, d ++ b, by rw [h1, h4, List.append_assoc], h5, (lang_append p q (d ++ b)).2 ⟨d, b, rfl, h6, h3⟩⟩⟩
theorem lang_one (x : At) (u : List Nat) : Lang [x] u ↔ inA x u :=
  ⟨fun ⟨a, b, h1, h2, h3⟩ => by
    have h3' : b = [] := h3
    subst h3'
    rw [h1, List.append_nil]
    exact h2, fun h => ⟨u, [], by rw [List.append_nil], h, rfl⟩⟩
theorem inA_rev (x : At) (u : List Nat) : inA x u.reverse ↔ inA x u := by
  unfold inA
  rw [List.length_reverse]
  have e : u.reverse = [] ↔ u = [] := List.reverse_eq_nil_iff
  constructor
  · rintro (h | ⟨h1, h2, h3⟩)
    · exact .inl ⟨e.1 h.1, h.2⟩
    · exact .inr ⟨fun h => h1 (e.2 h), fun b hb => h2 b (List.mem_reverse.2 hb), h3⟩
  · rintro (h | ⟨h1, h2, h3⟩)
    · exact .inl ⟨e.2 h.1, h.2⟩
    · exact .inr ⟨fun h => h1 (e.1 h), fun b hb => h2 b (List.mem_reverse.1 hb), h3⟩
theorem lang_rev_imp : ∀ (p : List At) (u : List Nat), Lang p u → Lang p.reverse u.reverse
  | [], u, h => by
    have h' : u = [] := h
    subst h'
    rfl
  | x :: p, u, ⟨a, b, h1, h2, h3⟩ => by
    rw [List.reverse_cons, h1, List.reverse_append]
    exact (lang_append _ _ _).2 ⟨_, _, rfl, lang_rev_imp p b h3, (lang_one x _).2 ((inA_rev x a).2 h2)⟩
theorem lang_rev (p : List At) (u : List Nat) : Lang p.reverse u.reverse ↔ Lang p u :=
  ⟨fun h => by
    have := lang_rev_imp _ _ h
    rwa [List.reverse_reverse, List.reverse_reverse] at this, lang_rev_imp p u⟩

/-! ### Places -/
/-- The bytes of s from i up to n. -/
def seg (s : ByteArray) (i n : Nat) : List Nat := ((List.range n).drop i).map (bt s)
theorem seg_self (s : ByteArray) (i : Nat) : seg s i i = [] := by unfold seg; rw [List.drop_eq_nil_of_le (by simp)]; rfl
theorem seg_len (s : ByteArray) (i n : Nat) : (seg s i n).length = n - i := by unfold seg; simp
theorem seg_snoc (s : ByteArray) (i n : Nat) (h : i ≤ n) : seg s i (n + 1) = seg s i n ++ [bt s n] := by
  unfold seg
  rw [List.range_succ, List.drop_append_of_le_length (by simpa using h), List.map_append]
  rfl
theorem seg_split (s : ByteArray) (i j n : Nat) (h1 : i ≤ j) (h2 : j ≤ n) : seg s i n = seg s i j ++ seg s j n := by
  induction n with
  | zero =>
    obtain rfl : j = 0 := by omega
    obtain rfl : i = 0 := by omega
    rw [seg_self]; rfl
  | succ n ih =>
    by_cases hj : j = n + 1
    · subst hj
      rw [seg_self, List.append_nil]
    · rw [seg_snoc s i n (by omega), seg_snoc s j n (by omega), ih (by omega), List.append_assoc]
theorem nx_lang (x : At) (s : ByteArray) (f : Nat → Bool) : ∀ n, nxF x s f n = true ↔ ∃ i, i < n ∧ f i = true ∧ (∀ b ∈ seg s i n, x.p b = true) ∧ (n - i = 1 ∨ x.many = true)
  | 0 => ⟨fun h => absurd h Bool.false_ne_true, fun ⟨i, h, _⟩ => absurd h (Nat.not_lt_zero i)⟩
  | n + 1 => by
    rw [show nxF x s f (n + 1) = ((f n || (x.many && nxF x s f n)) && x.p (bt s n)) from rfl, Bool.and_eq_true, Bool.or_eq_true, Bool.and_eq_true, nx_lang x s f n]
    constructor
    · rintro ⟨h | ⟨hm, i, h1, h2, h3, h4⟩, hp⟩
      · refine ⟨n, by omega, h, fun b hb => ?_, .inl (by omega)⟩
        rw [seg_snoc s n n (Nat.le_refl _), seg_self] at hb
        simp at hb
        rw [hb]
        exact hp
      · refine ⟨i, by omega, h2, fun b hb => ?_, .inr hm⟩
        rw [seg_snoc s i n (by omega)] at hb
        rcases List.mem_append.1 hb with hb | hb
        · exact h3 b hb
        · simp at hb
          rw [hb]
          exact hp
    · rintro ⟨i, h1, h2, h3, h4⟩
      have hp : x.p (bt s n) = true := h3 _ (by rw [seg_snoc s i n (by omega)]; exact List.mem_append_right _ (by simp))
      refine ⟨?_, hp⟩
      by_cases hi : i = n
      · subst hi
        exact .inl h2
      · have hm : x.many = true := by
          rcases h4 with h4 | h4
          · omega
          · exact h4
        exact .inr ⟨hm, i, by omega, h2, fun b hb => h3 b (by rw [seg_snoc s i n (by omega)]; exact List.mem_append_left _ hb), .inr hm⟩
theorem adv_lang (x : At) (s : ByteArray) (f : Nat → Bool) (n : Nat) : advF x s f n = true ↔ ∃ i, i ≤ n ∧ f i = true ∧ inA x (seg s i n) := by
  unfold advF
  rw [Bool.or_eq_true, Bool.and_eq_true, decide_eq_true_iff, nx_lang x s f n]
  constructor
  · rintro (⟨i, h1, h2, h3, h4⟩ | ⟨h1, h2⟩)
    · refine ⟨i, by omega, h2, .inr ⟨?_, h3, ?_⟩⟩
      · intro e
        have := seg_len s i n
        rw [e] at this
        simp at this
        omega
      · rw [seg_len]
        exact h4
    · exact ⟨n, Nat.le_refl _, h2, .inl ⟨seg_self s n, h1⟩⟩
  · rintro ⟨i, h1, h2, h3 | ⟨h3, h4, h5⟩⟩
    · have hi : i = n := by
        have := seg_len s i n
        rw [h3.1] at this
        simp at this
        omega
      subst hi
      exact .inr ⟨h3.2, h2⟩
    · rw [seg_len] at h5
      refine .inl ⟨i, ?_, h2, h4, h5⟩
      refine Nat.lt_of_le_of_ne h1 fun e => h3 ?_
      subst e
      exact seg_self s i
theorem seg_cut (s : ByteArray) (i n : Nat) (hin : i ≤ n) (a b : List Nat) (h : seg s i n = a ++ b) : ∃ j, i ≤ j ∧ j ≤ n ∧ seg s i j = a ∧ seg s j n = b := by
  have hl : a.length + b.length = n - i := by rw [← List.length_append, ← h, seg_len]
  refine ⟨i + a.length, by omega, by omega, ?_⟩
  have h2 := seg_split s i (i + a.length) n (by omega) (by omega)
  rw [h] at h2
  have h3 : a.length = (seg s i (i + a.length)).length := by rw [seg_len]; omega
  obtain ⟨e1, e2⟩ := List.append_inj h2 h3
  exact ⟨e1.symm, e2.symm⟩
theorem reach_lang (s : ByteArray) : ∀ (p : List At) (f : Nat → Bool) (n : Nat), reachF s p f n = true ↔ ∃ i, i ≤ n ∧ f i = true ∧ Lang p (seg s i n)
  | [], f, n => ⟨fun h => ⟨n, Nat.le_refl _, h, seg_self s n⟩, fun ⟨i, h1, h2, h3⟩ => by
      have h3' : seg s i n = [] := h3
      have : i = n := by
        have := seg_len s i n
        rw [h3'] at this
        simp at this
        omega
      subst this
      exact h2⟩
  | x :: p, f, n => by
    rw [show reachF s (x :: p) f n = reachF s p (advF x s f) n from rfl, reach_lang s p]
    constructor
    · rintro ⟨j, h1, h2, h3⟩
      obtain ⟨i, h4, h5, h6⟩ := (adv_lang x s f j).1 h2
      exact ⟨i, by omega, h5, _, _, seg_split s i j n h4 h1, h6, h3⟩
    · rintro ⟨i, h1, h2, a, b, h3, h4, h5⟩
      obtain ⟨j, h6, h7, h8, h9⟩ := seg_cut s i n h1 a b h3
      exact ⟨j, h7, (adv_lang x s f j).2 ⟨i, h6, h2, by rw [h8]; exact h4⟩, by rw [h9]; exact h5⟩
theorem match_lang (p : List At) (s : ByteArray) : matchF p s = true ↔ Lang p (seg s 0 s.size) := by
  unfold matchF
  rw [reach_lang]
  constructor
  · rintro ⟨i, _, h2, h3⟩
    have : i = 0 := by unfold startF at h2; simpa using h2
    subst this
    exact h3
  · exact fun h => ⟨0, Nat.zero_le _, rfl, h⟩
theorem suffix_lang (p : List At) (s : ByteArray) : suffixF p s = true ↔ ∃ i, i ≤ s.size ∧ Lang p (seg s i s.size) := by
  unfold suffixF
  rw [reach_lang]
  exact ⟨fun ⟨i, h1, _, h3⟩ => ⟨i, h1, h3⟩, fun ⟨i, h1, h3⟩ => ⟨i, h1, rfl, h3⟩⟩
theorem start_lang (p : List At) (s : ByteArray) (n : Nat) : reachF s p startF n = true ↔ Lang p (seg s 0 n) := by
  rw [reach_lang]
  constructor
  · rintro ⟨i, _, h2, h3⟩
    have : i = 0 := by unfold startF at h2; simpa using h2
    subst this
    exact h3
  · exact fun h => ⟨0, Nat.zero_le _, rfl, h⟩
theorem long_nonneg (f : Nat → Bool) : ∀ n, 0 ≤ longF f n ↔ ∃ i, i < n ∧ f i = true
  | 0 => ⟨fun h => absurd h (by unfold longF; decide), fun ⟨i, h, _⟩ => absurd h (Nat.not_lt_zero i)⟩
  | n + 1 => by
    unfold longF
    by_cases h : f n = true
    · rw [if_pos h]
      exact ⟨fun _ => ⟨n, by omega, h⟩, fun _ => by omega⟩
    · rw [if_neg h, long_nonneg f n]
      exact ⟨fun ⟨i, h1, h2⟩ => ⟨i, by omega, h2⟩, fun ⟨i, h1, h2⟩ => ⟨i, by
        refine Nat.lt_of_le_of_ne (by omega) fun e => h ?_
        rw [← e]
        exact h2, h2⟩⟩
theorem prefix_lang (p : List At) (s : ByteArray) : prefixF p s = true ↔ ∃ n, n ≤ s.size ∧ Lang p (seg s 0 n) := by
  unfold prefixF longestF
  rw [decide_eq_true_iff, long_nonneg]
  exact ⟨fun ⟨i, h1, h2⟩ => ⟨i, by omega, (start_lang p s i).1 h2⟩, fun ⟨i, h1, h2⟩ => ⟨i, by omega, (start_lang p s i).2 h2⟩⟩
/-- Strings with the same bytes there. -/
theorem seg_same {s t : ByteArray} {i n d : Nat} (h : ∀ k, i ≤ k → k < n → bt s k = bt t (k + d)) (hin : i ≤ n) : seg s i n = seg t (i + d) (n + d) := by
  induction n with
  | zero =>
    obtain rfl : i = 0 := by omega
    rw [Nat.zero_add, seg_self, seg_self]
  | succ n ih =>
    by_cases hi : i = n + 1
    · subst hi
      rw [seg_self, seg_self]
    · rw [seg_snoc s i n (by omega), show n + 1 + d = (n + d) + 1 by omega, seg_snoc t (i + d) (n + d) (by omega), ih (fun k h1 h2 => h k h1 (by omega)) (by omega), h n (by omega) (by omega)]
theorem bt_extract (s : ByteArray) (a b k : Nat) (hk : a + k < b) (hb : b ≤ s.size) : bt (s.extract a b) k = bt s (a + k) := by
  have h1 : k < (s.extract a b).size := by rw [ByteArray.size_extract]; omega
  rw [bt_get _ _ h1, bt_get s (a + k) (by omega)]
  rw [ByteArray.getElem_extract h1]
/-- A part of a string matches. -/
theorem match_part (p : List At) (s : ByteArray) (a b : Nat) (hab : a ≤ b) (hb : b ≤ s.size) : matchF p (s.extract a b) = true ↔ Lang p (seg s a b) := by
  rw [match_lang, ByteArray.size_extract, Nat.min_eq_left hb]
  have := seg_same (s := s.extract a b) (t := s) (i := 0) (n := b - a) (d := a) (fun k _ hk => by rw [bt_extract s a b k (by omega) hb, Nat.add_comm]) (Nat.zero_le _)
  rw [this, Nat.zero_add, show b - a + a = b by omega]

/-! ### What the statements reckon -/
def anyF (f : Nat → Bool) : Nat → Bool
  | 0 => false
  | n + 1 => anyF f n || f n
theorem any_iff (f : Nat → Bool) : ∀ n, anyF f n = true ↔ ∃ i, i < n ∧ f i = true
  | 0 => ⟨fun h => absurd h Bool.false_ne_true, fun ⟨i, h, _⟩ => absurd h (Nat.not_lt_zero i)⟩
  | n + 1 => by
    rw [show anyF f (n + 1) = (anyF f n || f n) from rfl, Bool.or_eq_true, any_iff f n]
    constructor
    · rintro (⟨i, h1, h2⟩ | h)
      · exact ⟨i, by omega, h2⟩
      · exact ⟨n, by omega, h⟩
    · rintro ⟨i, h1, h2⟩
      by_cases hi : i = n
      · subst hi
        exact .inr h2
      · exact .inl ⟨i, by omega, h2⟩
theorem long_congr {f g : Nat → Bool} : ∀ {n : Nat}, (∀ i, i < n → f i = g i) → longF f n = longF g n
  | 0, _ => rfl
  | n + 1, h => by
    unfold longF
    rw [h n (by omega), long_congr fun i hi => h i (by omega)]
theorem ends_long (p : List At) (s : ByteArray) : longestF p s = longF (fun i => matchF p (s.extract 0 i)) (s.size + 1) :=
  long_congr fun i hi => by
    rw [Bool.eq_iff_iff, start_lang, match_part p s 0 i (Nat.zero_le _) (by omega)]
theorem ends_suffix (p : List At) (s : ByteArray) : suffixF p s = anyF (fun i => matchF p (s.extract i s.size)) (s.size + 1) := by
  rw [Bool.eq_iff_iff, suffix_lang, any_iff]
  constructor
  · rintro ⟨i, h1, h2⟩
    exact ⟨i, by omega, (match_part p s i s.size h1 (Nat.le_refl _)).2 h2⟩
  · rintro ⟨i, h1, h2⟩
    exact ⟨i, by omega, (match_part p s i s.size (by omega) (Nat.le_refl _)).1 h2⟩
theorem joins_math (p q : List At) (s : ByteArray) : matchF (p ++ q) s = anyF (fun i => matchF p (s.extract 0 i) && matchF q (s.extract i s.size)) (s.size + 1) := by
  rw [Bool.eq_iff_iff, match_lang, any_iff, lang_append]
  constructor
  · rintro ⟨a, b, h1, h2, h3⟩
    obtain ⟨j, _, h5, h6, h7⟩ := seg_cut s 0 s.size (Nat.zero_le _) a b h1
    refine ⟨j, by omega, ?_⟩
    rw [Bool.and_eq_true]
    exact ⟨(match_part p s 0 j (Nat.zero_le _) h5).2 (by rw [h6]; exact h2), (match_part q s j s.size h5 (Nat.le_refl _)).2 (by rw [h7]; exact h3)⟩
  · rintro ⟨j, h1, h2⟩
    rw [Bool.and_eq_true] at h2
    exact ⟨_, _, seg_split s 0 j s.size (Nat.zero_le _) (by omega), (match_part p s 0 j (Nat.zero_le _) (by omega)).1 h2.1, (match_part q s j s.size (by omega) (Nat.le_refl _)).1 h2.2⟩
theorem seg_rev {s t : ByteArray} (hst : t.size = s.size) (h : ∀ k, k < s.size → bt t k = bt s (s.size - 1 - k)) : ∀ i n, i ≤ n → n ≤ s.size → seg t (s.size - n) (s.size - i) = (seg s i n).reverse := by
  intro i n hin hn
  refine List.ext_getElem? fun k => ?_
  by_cases hk : k < n - i
  · unfold seg
    rw [List.getElem?_reverse (by simp; omega)]
    simp only [List.getElem?_map, List.getElem?_drop, List.length_map, List.length_drop, List.length_range]
    rw [List.getElem?_range (by omega), List.getElem?_range (by omega)]
    simp only [Option.map_some]
    rw [h _ (by omega)]
    congr 2
    omega
  · rw [List.getElem?_eq_none (by rw [seg_len]; omega), List.getElem?_eq_none (by rw [List.length_reverse, seg_len]; omega)]
theorem rev_match (p : List At) {s t : ByteArray} (hst : t.size = s.size) (h : ∀ k, k < s.size → bt t k = bt s (s.size - 1 - k)) : matchF p.reverse t = matchF p s := by
  rw [Bool.eq_iff_iff, match_lang, match_lang, hst]
  have := seg_rev hst h 0 s.size (Nat.zero_le _) (Nat.le_refl _)
  rw [Nat.sub_self, Nat.sub_zero] at this
  rw [this, lang_rev]
theorem rev_prefix (p : List At) {s t : ByteArray} (hst : t.size = s.size) (h : ∀ k, k < s.size → bt t k = bt s (s.size - 1 - k)) : prefixF p.reverse t = suffixF p s := by
  rw [Bool.eq_iff_iff, prefix_lang, suffix_lang, hst]
  constructor
  · rintro ⟨n, h1, h2⟩
    refine ⟨s.size - n, by omega, ?_⟩
    have := seg_rev hst h (s.size - n) s.size (by omega) (Nat.le_refl _)
    rw [Nat.sub_self, show s.size - (s.size - n) = n by omega] at this
    rw [this, lang_rev] at h2
    exact h2
  · rintro ⟨i, h1, h2⟩
    refine ⟨s.size - i, by omega, ?_⟩
    have := seg_rev hst h i s.size h1 (Nat.le_refl _)
    rw [Nat.sub_self] at this
    rw [this, lang_rev]
    exact h2

end Go.Proofs.YtpboaadjbkaidaaDoor
