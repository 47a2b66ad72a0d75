
/-
  Plain functions for chapter 1 (classes of bytes), over bytes and lists; no program in sight.
-/
import Derived.Below
namespace Go.Proofs.YtpboaadjbkaidaaDoor
set_option maxRecDepth 100000
open Go.RowKit

/-- The class of a byte. -/
def clsN (n : Int) : Int :=
  if n = 9 ∨ n = 10 ∨ n = 13 ∨ n = 32 then 2
  else if n < 32 ∨ n = 127 then 1
  else if 48 ≤ n ∧ n ≤ 57 then 3
  else if (97 ≤ n ∧ n ≤ 122) ∨ (65 ≤ n ∧ n ≤ 90) ∨ 128 ≤ n then 4
  else 5

/-- The small letter of a byte. -/
def lowB (c : UInt8) : UInt8 := if 65 ≤ c.toNat ∧ c.toNat ≤ 90 then c + 32 else c

def lowL (l : List UInt8) : List UInt8 := l.map lowB

theorem lowB_nat (c : UInt8) : (lowB c).toNat = if 65 ≤ c.toNat ∧ c.toNat ≤ 90 then c.toNat + 32 else c.toNat := by
  unfold lowB
  split
  · rename_i h
    rw [UInt8.toNat_add]
    have : (32 : UInt8).toNat = 32 := rfl
    omega
  · rfl

/-- The list after k rounds. -/
def lowK (l : List UInt8) (k : Nat) : List UInt8 := lowL (l.take k) ++ l.drop k

theorem lowK_zero (l : List UInt8) : lowK l 0 = l := by simp [lowK, lowL]
theorem lowK_length (l : List UInt8) (k : Nat) : (lowK l k).length = l.length := by simp [lowK, lowL]; omega
theorem lowK_all (l : List UInt8) (k : Nat) (h : l.length ≤ k) : lowK l k = lowL l := by simp [lowK, List.take_of_length_le h, List.drop_of_length_le h]
theorem lowK_get (l : List UInt8) (k : Nat) (h : k < l.length) : (lowK l k)[k]? = some l[k] := by
  unfold lowK lowL
  have hl : (List.map lowB (l.take k)).length = k := by simp; omega
  rw [List.getElem?_append_right (by omega), hl, List.getElem?_drop]
  simp [List.getElem?_eq_getElem h]
theorem lowK_succ (l : List UInt8) (k : Nat) (h : k < l.length) : lowK l (k + 1) = (lowK l k).set k (lowB l[k]) := by
  unfold lowK lowL
  have hl : (List.map lowB (l.take k)).length = k := by simp; omega
  rw [List.set_append_right k _ (by omega), hl, Nat.sub_self, List.take_succ_eq_append_getElem h, List.drop_eq_getElem_cons h]
  simp only [List.map_append, List.map_cons, List.map_nil, List.append_assoc, List.singleton_append, List.set_cons_zero]
theorem lowK_same (l : List UInt8) (k : Nat) (h : k < l.length) (hc : lowB l[k] = l[k]) : lowK l (k + 1) = lowK l k := by
  unfold lowK lowL
  rw [List.take_succ_eq_append_getElem h, List.drop_eq_getElem_cons h]
  simp only [List.map_append, List.map_cons, List.map_nil, List.append_assoc, List.singleton_append, hc]
theorem lowB_same (c : UInt8) (h : ¬ (65 ≤ c.toNat ∧ c.toNat ≤ 90)) : lowB c = c := by rw [lowB, if_neg h]

/-! ### Names -/
def headB (c : UInt8) : Bool := decide (97 ≤ c.toNat ∧ c.toNat ≤ 122)
def restB (c : UInt8) : Bool := decide ((97 ≤ c.toNat ∧ c.toNat ≤ 122) ∨ (48 ≤ c.toNat ∧ c.toNat ≤ 57) ∨ c.toNat = 45)
def nameL : List UInt8 → Bool
  | [] => false
  | c :: r => decide (r.length ≤ 23) && headB c && r.all restB

theorem nameL_short (l : List UInt8) (h : l.length < 1) : nameL l = false := by
  have : l = [] := List.eq_nil_of_length_eq_zero (by omega)
  subst this
  rfl
theorem nameL_long (l : List UInt8) (h : 24 < l.length) : nameL l = false := by
  match l, h with
  | c :: r, h => simp at h; simp [nameL]; omega
theorem nameL_head (l : List UInt8) (h : 0 < l.length) (hc : headB l[0] = false) : nameL l = false := by
  match l, h with
  | c :: r, h => simp at hc; simp [nameL, hc]
theorem nameL_tail (l : List UInt8) (h : 0 < l.length) (hl : l.length ≤ 24) (hc : headB l[0] = true) : nameL l = (l.drop 1).all restB := by
  match l, h with
  | c :: r, h => simp at hc hl; simp [nameL, hc, hl]
theorem all_drop_step (l : List UInt8) (k : Nat) (h : k < l.length) : (l.drop k).all restB = (restB l[k] && (l.drop (k + 1)).all restB) := by
  rw [List.drop_eq_getElem_cons h, List.all_cons]
theorem all_drop_end (l : List UInt8) (k : Nat) (h : ¬ k < l.length) : (l.drop k).all restB = true := by
  rw [List.drop_of_length_le (by omega)]; rfl

/-! ### Trim -/
/-- What Trim answers: nothing but spaces and 0, 0; or the first and the last byte that is none. -/
def IsTrim (l : List UInt8) (x y : Nat) : Prop :=
  (x = 0 ∧ y = 0 ∧ ∀ (j : Nat) (c : UInt8), l[j]? = some c → clsN c.toNat = 2) ∨
  (x < y ∧ y ≤ l.length ∧ (∀ c, l[x]? = some c → clsN c.toNat ≠ 2) ∧ (∀ c, l[y - 1]? = some c → clsN c.toNat ≠ 2) ∧ (∀ (j : Nat) (c : UInt8), j < x → l[j]? = some c → clsN c.toNat = 2) ∧ ∀ (j : Nat) (c : UInt8), y ≤ j → l[j]? = some c → clsN c.toNat = 2)

theorem IsTrim.unique {l : List UInt8} {x y x' y' : Nat} (h : IsTrim l x y) (h' : IsTrim l x' y') : x = x' ∧ y = y' := by
  rcases h with ⟨rfl, rfl, ha⟩ | ⟨h1, h2, h3, h4, h5, h6⟩ <;> rcases h' with ⟨rfl, rfl, ha'⟩ | ⟨h1', h2', h3', h4', h5', h6'⟩
  · exact ⟨rfl, rfl⟩
  · have hx : x' < l.length := by omega
    exact absurd (ha _ _ (List.getElem?_eq_getElem hx)) (h3' _ (List.getElem?_eq_getElem hx))
  · have hx : x < l.length := by omega
    exact absurd (ha' _ _ (List.getElem?_eq_getElem hx)) (h3 _ (List.getElem?_eq_getElem hx))
  · constructor
    · rcases Nat.lt_trichotomy x x' with h | h | h
      · have hx : x < l.length := by omega
        exact absurd (h5' x _ h (List.getElem?_eq_getElem hx)) (h3 _ (List.getElem?_eq_getElem hx))
      · exact h
      · have hx : x' < l.length := by omega
        exact absurd (h5 x' _ h (List.getElem?_eq_getElem hx)) (h3' _ (List.getElem?_eq_getElem hx))
    · rcases Nat.lt_trichotomy y y' with h | h | h
      · have hx : y' - 1 < l.length := by omega
        exact absurd (h6 (y' - 1) _ (by omega) (List.getElem?_eq_getElem hx)) (h4' _ (List.getElem?_eq_getElem hx))
      · exact h
      · have hx : y - 1 < l.length := by omega
        exact absurd (h6' (y - 1) _ (by omega) (List.getElem?_eq_getElem hx)) (h4 _ (List.getElem?_eq_getElem hx))

theorem IsTrim.bounds {l : List UInt8} {x y : Nat} (h : IsTrim l x y) : x ≤ y ∧ y ≤ l.length := by
  rcases h with ⟨rfl, rfl, _⟩ | ⟨h1, h2, _⟩
  · omega
  · omega

theorem IsTrim.pad {a l b : List UInt8} {x y u v : Nat} (ha : ∀ c ∈ a, clsN c.toNat = 2) (hb : ∀ c ∈ b, clsN c.toNat = 2) (h : IsTrim l x y) (h' : IsTrim (a ++ l ++ b) u v) :
    (x = y → u = 0 ∧ v = 0) ∧ (x ≠ y → u = x + a.length ∧ v = y + a.length) := by
  rcases h with ⟨rfl, rfl, hs⟩ | ⟨h1, h2, h3, h4, h5, h6⟩
  · refine ⟨fun _ => h'.unique (.inl ⟨rfl, rfl, fun j c hj => ?_⟩), fun hne => absurd rfl hne⟩
    have hm := List.mem_of_getElem? hj
    rcases List.mem_append.1 hm with hm | hm
    · rcases List.mem_append.1 hm with hm | hm
      · exact ha c hm
      · obtain ⟨i, hi⟩ := List.mem_iff_getElem?.1 hm
        exact hs i c hi
    · exact hb c hm
  · refine ⟨fun e => by omega, fun _ => h'.unique (.inr ⟨by omega, by simp; omega, fun c hc => ?_, fun c hc => ?_, fun j c hj hc => ?_, fun j c hj hc => ?_⟩)⟩
    · refine h3 c ?_
      rw [List.append_assoc, List.getElem?_append_right (by omega), show x + a.length - a.length = x from by omega, List.getElem?_append_left (by omega)] at hc
      exact hc
    · refine h4 c ?_
      rw [List.append_assoc, List.getElem?_append_right (by omega), show y + a.length - 1 - a.length = y - 1 from by omega, List.getElem?_append_left (by omega)] at hc
      exact hc
    · by_cases hja : j < a.length
      · rw [List.append_assoc, List.getElem?_append_left hja] at hc
        exact ha c (List.mem_of_getElem? hc)
      · rw [List.append_assoc, List.getElem?_append_right (by omega), List.getElem?_append_left (by omega)] at hc
        exact h5 (j - a.length) c (by omega) hc
    · rw [List.append_assoc, List.getElem?_append_right (by omega)] at hc
      by_cases hjl : j - a.length < l.length
      · rw [List.getElem?_append_left hjl] at hc
        exact h6 (j - a.length) c (by omega) hc
      · rw [List.getElem?_append_right (by omega)] at hc
        exact hb c (List.mem_of_getElem? hc)

/-! ### Runs -/
def lastTo (st : List (Nat × Nat)) (t : Nat) : List (Nat × Nat) := match st.getLast? with
  | none => []
  | some (f, _) => st.dropLast ++ [(f, t)]
theorem lastTo_snoc (out : List (Nat × Nat)) (f u t : Nat) : lastTo (out ++ [(f, u)]) t = out ++ [(f, t)] := by simp [lastTo]

/-- The class of byte i of a list. -/
def clAt (l : List UInt8) (i : Nat) : Int := clsN ((l.getD i 0).toNat : Int)

/-- The runs of the first k bytes. -/
def runsK (l : List UInt8) : Nat → List (Nat × Nat)
  | 0 => []
  | k + 1 => if k = 0 ∨ clAt l k ≠ clAt l (k - 1) then runsK l k ++ [(k, k + 1)] else lastTo (runsK l k) (k + 1)

theorem runsK_new (l : List UInt8) (k : Nat) (h : k = 0 ∨ clAt l k ≠ clAt l (k - 1)) : runsK l (k + 1) = runsK l k ++ [(k, k + 1)] := by rw [runsK, if_pos h]
theorem runsK_old (l : List UInt8) (k : Nat) (h : ¬ (k = 0 ∨ clAt l k ≠ clAt l (k - 1))) : runsK l (k + 1) = lastTo (runsK l k) (k + 1) := by rw [runsK, if_neg h]

/-- The runs of a front part end in one that is open. -/
theorem runsK_open (l : List UInt8) : ∀ k, 0 < k → ∃ out f, runsK l k = out ++ [(f, k)] ∧ f < k ∧ (∀ i, f ≤ i → i < k → clAt l i = clAt l f) ∧ out.length ≤ f
  | 0, h => absurd h (by omega)
  | 1, _ => ⟨[], 0, by simp [runsK], by omega, fun i h1 h2 => by rw [show i = 0 from by omega], by simp⟩
  | k + 2, _ => by
    obtain ⟨out, f, he, hf, hc, hl⟩ := runsK_open l (k + 1) (by omega)
    by_cases h : k + 1 = 0 ∨ clAt l (k + 1) ≠ clAt l (k + 1 - 1)
    · refine ⟨runsK l (k + 1), k + 1, runsK_new l _ h, by omega, fun i h1 h2 => by rw [show i = k + 1 from by omega], ?_⟩
      rw [he]
      simp
      omega
    · refine ⟨out, f, by rw [runsK_old l _ h, he, lastTo_snoc], by omega, fun i h1 h2 => ?_, hl⟩
      by_cases hi : i = k + 1
      · subst hi
        have h' : clAt l (k + 1) = clAt l k := by
          apply Decidable.byContradiction
          intro hne
          exact h (.inr hne)
        rw [h']
        exact hc k (by omega) (by omega)
      · exact hc i h1 (by omega)

theorem runsK_length (l : List UInt8) (k : Nat) : (runsK l k).length ≤ k := by
  match k with
  | 0 => simp [runsK]
  | k + 1 =>
    obtain ⟨out, f, he, hf, _, hl⟩ := runsK_open l (k + 1) (by omega)
    rw [he]
    simp
    omega

/-- The runs of a front part lie side by side, cover it, have one class each, and neighbours have different ones. -/
theorem runsK_tiles (l : List UInt8) (k j : Nat) (r : Nat × Nat) (h : (runsK l k)[j]? = some r) :
    r.1 = (if j = 0 then 0 else ((runsK l k).getD (j - 1) (0, 0)).2) ∧ r.1 < r.2 ∧ r.2 ≤ k ∧ (j ≠ 0 → clAt l r.1 ≠ clAt l ((runsK l k).getD (j - 1) (0, 0)).1) ∧ (∀ i, r.1 ≤ i → i < r.2 → clAt l i = clAt l r.1) ∧
    (j + 1 = (runsK l k).length → r.2 = k) := by
  induction k generalizing j r with
  | zero => simp [runsK] at h
  | succ k ih =>
    by_cases hk : k = 0 ∨ clAt l k ≠ clAt l (k - 1)
    · rw [runsK_new l k hk] at h ⊢
      by_cases hj : j < (runsK l k).length
      · rw [List.getElem?_append_left hj] at h
        obtain ⟨a, b, c, d, e, f⟩ := ih j r h
        have hg : ∀ i, i < (runsK l k).length → (runsK l k ++ [(k, k + 1)]).getD i (0, 0) = (runsK l k).getD i (0, 0) := fun i hi => by
          simp [List.getD, List.getElem?_append_left hi]
        refine ⟨by rw [a, hg _ (by omega)], b, by omega, fun h0 => by rw [hg _ (by omega)]; exact d h0, e, fun h0 => ?_⟩
        simp at h0
        omega
      · rw [List.getElem?_append_right (by omega)] at h
        have hj0 : j = (runsK l k).length := by
          have := (List.getElem?_eq_some_iff.1 h).1
          simp at this
          omega
        subst hj0
        simp at h
        subst h
        by_cases hk0 : k = 0
        · subst hk0
          simp [runsK]
          try (intro i hi; subst hi; rfl)
        · obtain ⟨out, f, he, hf, hc, hl⟩ := runsK_open l k (by omega)
          have hlen : (runsK l k).length = out.length + 1 := by rw [he]; simp
          have hg : (runsK l k ++ [(k, k + 1)]).getD ((runsK l k).length - 1) (0, 0) = (f, k) := by
            rw [hlen, he]
            simp [List.getD]
          rw [hg]
          refine ⟨by rw [if_neg (by omega)], by simp, by simp, fun _ => ?_, fun i h1 h2 => ?_, fun _ => rfl⟩
          · rcases hk with h | h
            · exact absurd h hk0
            · show clAt l k ≠ clAt l f
              rw [← hc (k - 1) (by omega) (by omega)]
              exact h
          · simp at h1 h2
            rw [show i = k from by omega]
    · have hk0 : 0 < k := by
        rcases Nat.eq_zero_or_pos k with h0 | h0
        · exact absurd (.inl h0) hk
        · exact h0
      obtain ⟨out, f, he, hf, hc, hl⟩ := runsK_open l k hk0
      rw [runsK_old l k hk, he, lastTo_snoc] at h ⊢
      rw [he] at ih
      by_cases hj : j < out.length
      · rw [List.getElem?_append_left hj] at h
        obtain ⟨a, b, c, d, e, g⟩ := ih j r (by rw [List.getElem?_append_left hj]; exact h)
        have hg : ∀ i (x : Nat × Nat), i < out.length → (out ++ [x]).getD i (0, 0) = out.getD i (0, 0) := fun i x hi => by
          simp [List.getD, List.getElem?_append_left hi]
        refine ⟨by rw [a, hg _ _ (by omega), hg _ _ (by omega)], b, by omega, fun h0 => ?_, e, fun h0 => ?_⟩
        · have := d h0
          rw [hg _ _ (by omega)] at this ⊢
          exact this
        · simp at h0
          omega
      · rw [List.getElem?_append_right (by omega)] at h
        have hj0 : j = out.length := by
          have := (List.getElem?_eq_some_iff.1 h).1
          simp at this
          omega
        subst hj0
        simp at h
        subst h
        obtain ⟨a, b, c, d, e, g⟩ := ih out.length (f, k) (by simp)
        have hg : ∀ (x : Nat × Nat), out.length ≠ 0 → (out ++ [x]).getD (out.length - 1) (0, 0) = out.getD (out.length - 1) (0, 0) := fun x hi => by
          simp [List.getD, List.getElem?_append_left (show out.length - 1 < out.length by omega)]
        refine ⟨?_, by show f < k + 1; omega, by simp, fun h0 => ?_, fun i h1 h2 => ?_, fun _ => rfl⟩
        · rw [a]
          by_cases h0 : out.length = 0
          · rw [if_pos h0, if_pos h0]
          · rw [if_neg h0, if_neg h0, hg _ h0, hg _ h0]
        · have := d h0
          rw [hg _ h0] at this ⊢
          exact this
        · simp at h1 h2
          show clAt l i = clAt l f
          by_cases hi : i = k
          · subst hi
            have h' : clAt l i = clAt l (i - 1) := by
              apply Decidable.byContradiction
              intro hne
              exact hk (.inr hne)
            rw [h']
            exact hc (i - 1) (by omega) (by omega)
          · exact hc i h1 (by omega)

end Go.Proofs.YtpboaadjbkaidaaDoor
