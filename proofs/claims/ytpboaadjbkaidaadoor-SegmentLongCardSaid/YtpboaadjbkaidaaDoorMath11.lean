
/-
  Plain functions for chapter 11 (tokens), over bytes and lists; no program in sight.
-/
import Derived.Test.YtpboaadjbkaidaaDoorMath1
import Derived.Lib.Strings
namespace Go.Proofs.YtpboaadjbkaidaaDoor
set_option maxRecDepth 100000
open Go.RowKit

/-- A token or an item. -/
structure Tk where
  k : Int
  t : ByteArray
  d : Int

theorem Tk.ext' {a b : Tk} (h1 : a.k = b.k) (h2 : a.t = b.t) (h3 : a.d = b.d) : a = b := by
  cases a; cases b; simp at h1 h2 h3; rw [h1, h2, h3]
theorem bytes_ext {a b : ByteArray} (h : a.data.toList = b.data.toList) : a = b := by
  obtain ⟨⟨l⟩⟩ := a
  obtain ⟨⟨m⟩⟩ := b
  simp at h
  rw [h]

def wordB (c : UInt8) : Bool := clsN (c.toNat : Int) == 4 || clsN (c.toNat : Int) == 3
def digB (c : UInt8) : Bool := clsN (c.toNat : Int) == 3
def spB (c : UInt8) : Bool := clsN (c.toNat : Int) == 2

/-- How many bytes at the head are inner ones, with single joints between two of them. -/
def jn (inner : UInt8 → Bool) (a b : UInt8) : List UInt8 → Nat
  | [] => 0
  | c :: r => if inner c then jn inner a b r + 1 else if c == a || c == b then (match r with
    | d :: r' => if inner d then jn inner a b r' + 2 else 0
    | [] => 0) else 0

theorem jn_nil (inner : UInt8 → Bool) (a b : UInt8) : jn inner a b [] = 0 := rfl
theorem jn_in (inner : UInt8 → Bool) (a b c : UInt8) (r : List UInt8) (h : inner c = true) : jn inner a b (c :: r) = jn inner a b r + 1 := by
  cases r <;> simp [jn, h]
theorem jn_out (inner : UInt8 → Bool) (a b c : UInt8) (r : List UInt8) (h : inner c = false) (h2 : (c == a || c == b) = false) : jn inner a b (c :: r) = 0 := by
  have h2' : ¬ ((c == a || c == b) = true) := by rw [h2]; exact Bool.false_ne_true
  cases r <;> simp only [jn, h, Bool.false_eq_true, if_false, if_neg h2']
theorem jn_two (inner : UInt8 → Bool) (a b c d : UInt8) (r : List UInt8) (h : inner c = false) (h2 : (c == a || c == b) = true) (h3 : inner d = true) : jn inner a b (c :: d :: r) = jn inner a b r + 2 := by
  rw [jn, if_neg (by rw [h]; exact Bool.false_ne_true), if_pos h2]
  simp [h3]
theorem jn_half (inner : UInt8 → Bool) (a b c d : UInt8) (r : List UInt8) (h : inner c = false) (h2 : (c == a || c == b) = true) (h3 : inner d = false) : jn inner a b (c :: d :: r) = 0 := by
  rw [jn, if_neg (by rw [h]; exact Bool.false_ne_true), if_pos h2]
  simp [h3]
theorem jn_end (inner : UInt8 → Bool) (a b c : UInt8) (h : inner c = false) : jn inner a b [c] = 0 := by
  rw [jn, if_neg (by rw [h]; exact Bool.false_ne_true)]
  split <;> rfl
theorem jn_le (inner : UInt8 → Bool) (a b : UInt8) : ∀ n (l : List UInt8), l.length ≤ n → jn inner a b l ≤ l.length
  | 0, l, h => by
    have : l = [] := List.eq_nil_of_length_eq_zero (by omega)
    subst this
    simp [jn]
  | n + 1, l, h => by
    match l with
    | [] => simp [jn]
    | [c] =>
      by_cases hc : inner c = true
      · rw [jn_in _ _ _ _ _ hc, jn_nil]; simp
      · rw [jn_end _ _ _ _ (by simpa using hc)]; simp
    | c :: d :: r =>
      have h1 := jn_le inner a b n (d :: r) (by simp at h ⊢; omega)
      have h2 := jn_le inner a b n r (by simp at h ⊢; omega)
      simp at h1 ⊢
      by_cases hc : inner c = true
      · rw [jn_in _ _ _ _ _ hc]; omega
      · by_cases hj : (c == a || c == b) = true
        · by_cases hd : inner d = true
          · rw [jn_two _ _ _ _ _ _ (by simpa using hc) hj hd]; omega
          · rw [jn_half _ _ _ _ _ _ (by simpa using hc) hj (by simpa using hd)]; omega
        · rw [jn_out _ _ _ _ _ (by simpa using hc) (by simpa using hj)]; omega

/-- Kind and length of the token at the head. -/
def nextL : List UInt8 → Int × Nat
  | [] => (9, 1)
  | c :: r => if clsN (c.toNat : Int) = 4 then (6, 1 + jn wordB 39 45 r) else if clsN (c.toNat : Int) = 3 then (7, 1 + jn digB 46 44 r)
    else if clsN (c.toNat : Int) = 2 then (8, 1 + (r.takeWhile spB).length) else (9, 1)

theorem nextL_pos (l : List UInt8) : 1 ≤ (nextL l).2 := by
  match l with
  | [] => simp [nextL]
  | c :: r => unfold nextL; repeat' split
              all_goals simp
theorem takeWhile_le (p : UInt8 → Bool) (l : List UInt8) : (l.takeWhile p).length ≤ l.length := (List.takeWhile_prefix p).length_le
theorem nextL_le (l : List UInt8) (h : l ≠ []) : (nextL l).2 ≤ l.length := by
  match l, h with
  | c :: r, _ =>
    have h1 := jn_le wordB 39 45 r.length r (Nat.le_refl _)
    have h2 := jn_le digB 46 44 r.length r (Nat.le_refl _)
    have h3 := takeWhile_le spB r
    simp only [nextL, List.length_cons]
    by_cases a1 : clsN (c.toNat : Int) = 4
    · rw [if_pos a1]; show 1 + _ ≤ _; omega
    · rw [if_neg a1]
      by_cases a2 : clsN (c.toNat : Int) = 3
      · rw [if_pos a2]; show 1 + _ ≤ _; omega
      · rw [if_neg a2]
        by_cases a3 : clsN (c.toNat : Int) = 2
        · rw [if_pos a3]; show 1 + _ ≤ _; omega
        · rw [if_neg a3]; show 1 ≤ _; omega

/-- The tokens of a text: kinds and bytes. -/
def cutF : Nat → List UInt8 → List (Int × List UInt8)
  | 0, _ => []
  | _ + 1, [] => []
  | n + 1, c :: r => ((nextL (c :: r)).1, (c :: r).take (nextL (c :: r)).2) :: cutF n ((c :: r).drop (nextL (c :: r)).2)
def cutL (l : List UInt8) : List (Int × List UInt8) := cutF l.length l

theorem cutF_eq (n m : Nat) (l : List UInt8) (hn : l.length ≤ n) (hm : l.length ≤ m) : cutF n l = cutF m l := by
  induction n generalizing m l with
  | zero =>
    have : l = [] := List.eq_nil_of_length_eq_zero (by omega)
    subst this
    cases m <;> rfl
  | succ n ih =>
    match l, m, hm with
    | [], 0, _ => rfl
    | [], _ + 1, _ => rfl
    | c :: r, m + 1, hm =>
      have hp := nextL_pos (c :: r)
      rw [cutF, cutF, ih m]
      · rw [List.length_drop]; simp at hn ⊢; omega
      · rw [List.length_drop]; simp at hm ⊢; omega
theorem cutL_nil : cutL [] = [] := rfl
theorem cutL_cons (l : List UInt8) (h : l ≠ []) : cutL l = ((nextL l).1, l.take (nextL l).2) :: cutL (l.drop (nextL l).2) := by
  match l, h with
  | c :: r, _ =>
    have hp := nextL_pos (c :: r)
    unfold cutL
    rw [List.length_cons, cutF]
    congr 1
    refine cutF_eq _ _ _ ?_ (Nat.le_refl _)
    rw [List.length_drop, List.length_cons]
    omega
theorem cutL_length (n : Nat) : ∀ l : List UInt8, l.length ≤ n → (cutL l).length ≤ l.length := by
  induction n with
  | zero =>
    intro l h
    have : l = [] := List.eq_nil_of_length_eq_zero (by omega)
    subst this
    simp [cutL_nil]
  | succ n ih =>
    intro l h
    by_cases hl : l = []
    · subst hl; simp [cutL_nil]
    · have hp := nextL_pos l
      have hle := nextL_le l hl
      rw [cutL_cons l hl, List.length_cons]
      have := ih (l.drop (nextL l).2) (by rw [List.length_drop]; omega)
      rw [List.length_drop] at this
      omega

def tkOf (x : Int × List UInt8) : Tk := ⟨x.1, ⟨x.2.toArray⟩, 0⟩

/-- The tokens of an item. -/
def tok1 (x : Tk) : List Tk := if x.k = 1 then (cutL x.t.data.toList).map tkOf else if 2 ≤ x.k ∧ x.k ≤ 5 then [x] else []
def tokensL (f : List Tk) : List Tk := f.flatMap tok1

def bytesOf (f : List Tk) : Nat := (f.map fun x => x.t.size).sum
theorem bytesOf_cons (x : Tk) (f : List Tk) : bytesOf (x :: f) = x.t.size + bytesOf f := by simp [bytesOf]
theorem tok1_length (x : Tk) : (tok1 x).length ≤ x.t.size + 1 := by
  unfold tok1
  split
  · have := cutL_length _ x.t.data.toList (Nat.le_refl _)
    rw [List.length_map, Lib.size_eq]
    omega
  · split <;> simp
theorem tokensL_length (f : List Tk) : (tokensL f).length ≤ bytesOf f + f.length := by
  induction f with
  | nil => simp [tokensL]
  | cons x f ih =>
    have h1 := tok1_length x
    have h2 : tokensL (x :: f) = tok1 x ++ tokensL f := rfl
    rw [h2, List.length_append, bytesOf_cons, List.length_cons]
    omega
theorem tokensL_append (f g : List Tk) : tokensL (f ++ g) = tokensL f ++ tokensL g := by simp [tokensL]
theorem tokensL_take (f : List Tk) (k : Nat) (h : k < f.length) : tokensL (f.take (k + 1)) = tokensL (f.take k) ++ tok1 f[k] := by
  rw [List.take_succ_eq_append_getElem h, tokensL_append]
  simp [tokensL]
theorem bytesOf_take (f : List Tk) (k : Nat) : bytesOf (f.take k) ≤ bytesOf f := by
  induction f generalizing k with
  | nil => simp [bytesOf]
  | cons x f ih =>
    cases k with
    | zero => simp [bytesOf]
    | succ k => rw [List.take_succ_cons, bytesOf_cons, bytesOf_cons]; have := ih k; omega
theorem bytesOf_get (f : List Tk) (k : Nat) (h : k < f.length) : bytesOf (f.take k) + f[k].t.size ≤ bytesOf f := by
  have h1 := bytesOf_take f (k + 1)
  rw [List.take_succ_eq_append_getElem h] at h1
  have h2 : bytesOf (f.take k ++ [f[k]]) = bytesOf (f.take k) + f[k].t.size := by
    unfold bytesOf
    rw [List.map_append, List.sum_append]
    simp only [List.map_cons, List.map_nil, List.sum_cons, List.sum_nil, Nat.add_zero]
  omega

end Go.Proofs.YtpboaadjbkaidaaDoor
