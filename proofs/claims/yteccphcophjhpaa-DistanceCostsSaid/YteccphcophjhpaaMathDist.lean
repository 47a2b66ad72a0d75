
/-
  Plain functions for chapter 12 (distance): costs, the least sum, alignments; no program in sight.
-/
import Derived.Test.YteccphcophjhpaaTokI
namespace Go.Proofs.Yteccphcophjhpaa
open Go.RowKit

def isTagB (x : Tk) : Bool := x.k == 2 || x.k == 3 || x.k == 4
def singleI (x : Tk) : Int := if isTagB x then 1 else weightI x.k
def sameB (x y : Tk) : Bool := x.k == y.k && x.t.toList == y.t.toList
def costOk (x y : Tk) : Bool := sameB x y || (x.k == y.k && decide (5 ≤ x.k ∧ x.k ≤ 9))
def costI (x y : Tk) : Int := if sameB x y then 0 else if x.k = 6 ∧ keyT x = keyT y then 1 else weightI x.k

theorem single_bd (x : Tk) : 0 ≤ singleI x ∧ singleI x ≤ 4 := by
  have := weightI_bd x.k
  unfold singleI
  split <;> omega
theorem toList_inj {s t : ByteArray} (h : s.toList = t.toList) : s = t := by
  rw [toList_eq_data, toList_eq_data] at h
  exact bytes_ext h
theorem sameB_iff (x y : Tk) : sameB x y = true ↔ x.k = y.k ∧ x.t = y.t := by
  unfold sameB
  rw [Bool.and_eq_true, beq_iff_eq, beq_iff_eq]
  constructor
  · rintro ⟨h1, h2⟩; exact ⟨h1, toList_inj h2⟩
  · rintro ⟨h1, h2⟩; exact ⟨h1, by rw [h2]⟩
theorem sameB_refl (x : Tk) : sameB x x = true := (sameB_iff x x).2 ⟨rfl, rfl⟩
theorem sameB_symm (x y : Tk) : sameB x y = sameB y x := by
  rw [Bool.eq_iff_iff, sameB_iff, sameB_iff]
  exact ⟨fun h => ⟨h.1.symm, h.2.symm⟩, fun h => ⟨h.1.symm, h.2.symm⟩⟩
theorem costOk_kind {x y : Tk} (h : costOk x y = true) : x.k = y.k := by
  unfold costOk at h
  rw [Bool.or_eq_true, sameB_iff, Bool.and_eq_true, beq_iff_eq] at h
  rcases h with h | h
  · exact h.1
  · exact h.1
theorem costOk_refl (x : Tk) : costOk x x = true := by unfold costOk; rw [sameB_refl]; rfl
theorem costOk_symm (x y : Tk) : costOk x y = costOk y x := by
  unfold costOk
  rw [sameB_symm]
  by_cases h : x.k = y.k
  · rw [h]
  · have h1 : (x.k == y.k) = false := by simpa using h
    have h2 : (y.k == x.k) = false := by simpa using fun e => h e.symm
    rw [h1, h2]
    simp
theorem single_kind {x y : Tk} (h : x.k = y.k) : singleI x = singleI y := by unfold singleI isTagB; rw [h]
theorem costI_symm {x y : Tk} (h : x.k = y.k) : costI x y = costI y x := by
  unfold costI
  rw [sameB_symm, h]
  by_cases h2 : keyT x = keyT y
  · rw [h2]
  · rw [if_neg (c := y.k = 6 ∧ keyT x = keyT y) (fun e => h2 e.2), if_neg (c := y.k = 6 ∧ keyT y = keyT x) (fun e => h2 e.2.symm)]
theorem costI_refl (x : Tk) : costI x x = 0 := by unfold costI; rw [if_pos (sameB_refl x)]
theorem costI_bd (x y : Tk) : 0 ≤ costI x y ∧ costI x y ≤ 4 := by
  have := weightI_bd x.k
  unfold costI
  repeat' split
  all_goals omega
theorem costI_le_weight (x y : Tk) (h : costOk x y = true) : costI x y ≤ singleI x + singleI y := by
  have h0 := single_bd x
  have h1 := single_bd y
  unfold costI
  by_cases hs : sameB x y = true
  · rw [if_pos hs]; omega
  · rw [if_neg hs]
    unfold costOk at h
    have hs' : sameB x y = false := by simpa using hs
    rw [hs', Bool.false_or, Bool.and_eq_true, beq_iff_eq, decide_eq_true_eq] at h
    have hk : singleI x = weightI x.k := by
      unfold singleI
      rw [if_neg]
      unfold isTagB
      simp
      omega
    split
    · rename_i h6
      rw [hk, h6.1]
      have : weightI 6 = 4 := rfl
      omega
    · omega
/-- A cost over a third token. -/
theorem cost_tri {x y z : Tk} (h1 : costOk x y = true) (h2 : costOk y z = true) : costOk x z = true ∧ costI x z ≤ costI x y + costI y z := by
  have k1 := costOk_kind h1
  have k2 := costOk_kind h2
  by_cases s1 : sameB x y = true
  · obtain ⟨a1, a2⟩ := (sameB_iff x y).1 s1
    have hk : keyT x = keyT y := by unfold keyT; rw [a1, a2]
    have hs : sameB x z = sameB y z := by unfold sameB; rw [a1, a2]
    refine ⟨?_, ?_⟩
    · unfold costOk at h2 ⊢
      rw [hs, a1]
      exact h2
    · have : costI x z = costI y z := by unfold costI; rw [hs, hk, a1]
      have := (costI_bd x y).1
      omega
  · by_cases s2 : sameB y z = true
    · obtain ⟨a1, a2⟩ := (sameB_iff y z).1 s2
      have hk : keyT y = keyT z := by unfold keyT; rw [a1, a2]
      have hs : sameB x z = sameB x y := by unfold sameB; rw [a1, a2]
      refine ⟨?_, ?_⟩
      · unfold costOk at h1 ⊢
        rw [hs, ← a1]
        exact h1
      · have : costI x z = costI x y := by unfold costI; rw [hs, hk]
        have := (costI_bd y z).1
        omega
    · have s1' : sameB x y = false := by simpa using s1
      have s2' : sameB y z = false := by simpa using s2
      unfold costOk at h1 h2
      rw [s1', Bool.false_or, Bool.and_eq_true, beq_iff_eq, decide_eq_true_eq] at h1
      refine ⟨?_, ?_⟩
      · unfold costOk
        rw [Bool.or_eq_true, Bool.and_eq_true, beq_iff_eq, decide_eq_true_eq]
        exact .inr ⟨k1.trans k2, h1.2⟩
      · unfold costI
        rw [if_neg s1, if_neg s2, ← k1]
        have hw := weightI_bd x.k
        have hwp : 1 ≤ weightI x.k := by
          unfold weightI
          repeat' split
          all_goals omega
        by_cases hz : sameB x z = true
        · rw [if_pos hz]
          split <;> split <;> omega
        · rw [if_neg hz]
          by_cases c1 : x.k = 6 ∧ keyT x = keyT y
          · rw [if_pos c1]
            by_cases c2 : x.k = 6 ∧ keyT y = keyT z
            · rw [if_pos c2, if_pos ⟨c1.1, c1.2.trans c2.2⟩]
              decide
            · rw [if_neg c2]
              split <;> omega
          · rw [if_neg c1]
            split <;> split <;> omega

/-- The least sum for two lists. -/
def edIn (x : Tk) (r : List Tk → Int) : List Tk → Int
  | [] => singleI x + r []
  | y :: b => if costOk x y then min (min (singleI x + r (y :: b)) (singleI y + edIn x r b)) (costI x y + r b) else min (singleI x + r (y :: b)) (singleI y + edIn x r b)
def ed : List Tk → List Tk → Int
  | [] => fun b => (b.map singleI).sum
  | x :: a => edIn x (ed a)
theorem ed_nn : ed [] [] = 0 := rfl
theorem ed_nc (y : Tk) (b : List Tk) : ed [] (y :: b) = singleI y + ed [] b := by simp [ed]
theorem ed_cn (x : Tk) (a : List Tk) : ed (x :: a) [] = singleI x + ed a [] := rfl
theorem ed_cc_ok (x y : Tk) (a b : List Tk) (h : costOk x y = true) : ed (x :: a) (y :: b) = min (min (singleI x + ed a (y :: b)) (singleI y + ed (x :: a) b)) (costI x y + ed a b) := by
  show edIn x (ed a) (y :: b) = _
  rw [edIn, if_pos h]
  rfl
theorem ed_cc_no (x y : Tk) (a b : List Tk) (h : costOk x y = false) : ed (x :: a) (y :: b) = min (singleI x + ed a (y :: b)) (singleI y + ed (x :: a) b) := by
  show edIn x (ed a) (y :: b) = _
  rw [edIn, if_neg (by rw [h]; exact Bool.false_ne_true)]
  rfl
theorem ed_nonneg (a : List Tk) : ∀ b, 0 ≤ ed a b := by
  induction a with
  | nil =>
    intro b
    induction b with
    | nil => exact Int.le_refl _
    | cons y b ih => rw [ed_nc]; have := single_bd y; omega
  | cons x a ih =>
    intro b
    have hx := single_bd x
    induction b with
    | nil => rw [ed_cn]; have := ih []; omega
    | cons y b ihb =>
      have hy := single_bd y
      have h1 := ih (y :: b)
      have h2 := ih b
      have h3 := costI_bd x y
      by_cases hc : costOk x y = true
      · rw [ed_cc_ok _ _ _ _ hc]; omega
      · rw [ed_cc_no _ _ _ _ (by simpa using hc)]; omega
theorem ed_bound (a : List Tk) : ∀ b, ed a b ≤ 4 * a.length + 4 * b.length := by
  induction a with
  | nil =>
    intro b
    induction b with
    | nil => exact Int.le_refl _
    | cons y b ih => rw [ed_nc, List.length_cons]; have := single_bd y; omega
  | cons x a ih =>
    intro b
    have hx := single_bd x
    induction b with
    | nil => rw [ed_cn, List.length_cons]; have := ih []; simp at this ⊢; omega
    | cons y b ihb =>
      have hy := single_bd y
      have h1 := ih (y :: b)
      simp only [List.length_cons] at h1 ⊢
      by_cases hc : costOk x y = true
      · rw [ed_cc_ok _ _ _ _ hc]; omega
      · rw [ed_cc_no _ _ _ _ (by simpa using hc)]; omega
theorem ed_del (x : Tk) (a b : List Tk) : ed (x :: a) b ≤ singleI x + ed a b := by
  cases b with
  | nil => rw [ed_cn]; exact Int.le_refl _
  | cons y b =>
    by_cases hc : costOk x y = true
    · rw [ed_cc_ok _ _ _ _ hc]; omega
    · rw [ed_cc_no _ _ _ _ (by simpa using hc)]; omega
theorem ed_ins (y : Tk) (a b : List Tk) : ed a (y :: b) ≤ singleI y + ed a b := by
  cases a with
  | nil => rw [ed_nc]; exact Int.le_refl _
  | cons x a =>
    by_cases hc : costOk x y = true
    · rw [ed_cc_ok _ _ _ _ hc]; omega
    · rw [ed_cc_no _ _ _ _ (by simpa using hc)]; omega
theorem ed_pair (x y : Tk) (a b : List Tk) (hc : costOk x y = true) : ed (x :: a) (y :: b) ≤ costI x y + ed a b := by
  rw [ed_cc_ok _ _ _ _ hc]; omega

/-- An alignment in k steps with a price. -/
def AlF : Nat → List Tk → List Tk → Int → Prop
  | 0, a, b, n => a = [] ∧ b = [] ∧ n = 0
  | k + 1, a, b, n => (∃ x a' y b' m, a = x :: a' ∧ b = y :: b' ∧ costOk x y = true ∧ n = costI x y + m ∧ AlF k a' b' m) ∨ (∃ x a' m, a = x :: a' ∧ n = singleI x + m ∧ AlF k a' b m) ∨ (∃ y b' m, b = y :: b' ∧ n = singleI y + m ∧ AlF k a b' m)
def Al (a b : List Tk) (n : Int) : Prop := ∃ k, AlF k a b n
theorem Al.nil : Al [] [] 0 := ⟨0, rfl, rfl, rfl⟩
theorem Al.pair {x y : Tk} {a b : List Tk} {n : Int} (hc : costOk x y = true) (h : Al a b n) : Al (x :: a) (y :: b) (costI x y + n) := by
  obtain ⟨k, h⟩ := h
  exact ⟨k + 1, .inl ⟨x, a, y, b, n, rfl, rfl, hc, rfl, h⟩⟩
theorem Al.del {a b : List Tk} {n : Int} (x : Tk) (h : Al a b n) : Al (x :: a) b (singleI x + n) := by
  obtain ⟨k, h⟩ := h
  exact ⟨k + 1, .inr (.inl ⟨x, a, n, rfl, rfl, h⟩)⟩
theorem Al.ins {a b : List Tk} {n : Int} (y : Tk) (h : Al a b n) : Al a (y :: b) (singleI y + n) := by
  obtain ⟨k, h⟩ := h
  exact ⟨k + 1, .inr (.inr ⟨y, b, n, rfl, rfl, h⟩)⟩
theorem Al.ind {M : List Tk → List Tk → Int → Prop} (h0 : M [] [] 0) (hp : ∀ x y a b n, costOk x y = true → M a b n → M (x :: a) (y :: b) (costI x y + n))
    (hd : ∀ x a b n, M a b n → M (x :: a) b (singleI x + n)) (hi : ∀ y a b n, M a b n → M a (y :: b) (singleI y + n)) {a b : List Tk} {n : Int} (h : Al a b n) : M a b n := by
  obtain ⟨k, h⟩ := h
  induction k generalizing a b n with
  | zero => obtain ⟨rfl, rfl, rfl⟩ := h; exact h0
  | succ k ih =>
    rcases h with ⟨x, a', y, b', m, rfl, rfl, hc, rfl, h⟩ | ⟨x, a', m, rfl, rfl, h⟩ | ⟨y, b', m, rfl, rfl, h⟩
    · exact hp _ _ _ _ _ hc (ih h)
    · exact hd _ _ _ _ (ih h)
    · exact hi _ _ _ _ (ih h)

theorem ed_le {a b : List Tk} {n : Int} (h : Al a b n) : ed a b ≤ n :=
  Al.ind (M := fun a b n => ed a b ≤ n) (Int.le_refl _) (fun x y a b n hc h => by have := ed_pair x y a b hc; omega) (fun x a b n h => by have := ed_del x a b; omega) (fun y a b n h => by have := ed_ins y a b; omega) h
theorem min3_cases (p q r : Int) : min (min p q) r = p ∨ min (min p q) r = q ∨ min (min p q) r = r := by omega
theorem min2_cases (p q : Int) : min p q = p ∨ min p q = q := by omega
theorem ed_al (a : List Tk) : ∀ b, Al a b (ed a b) := by
  induction a with
  | nil =>
    intro b
    induction b with
    | nil => exact Al.nil
    | cons y b ih => rw [ed_nc]; exact ih.ins y
  | cons x a ih =>
    intro b
    induction b with
    | nil => rw [ed_cn]; exact (ih []).del x
    | cons y b ihb =>
      by_cases hc : costOk x y = true
      · rw [ed_cc_ok _ _ _ _ hc]
        rcases min3_cases (singleI x + ed a (y :: b)) (singleI y + ed (x :: a) b) (costI x y + ed a b) with h | h | h <;> rw [h]
        · exact (ih (y :: b)).del x
        · exact ihb.ins y
        · exact (ih b).pair hc
      · rw [ed_cc_no _ _ _ _ (by simpa using hc)]
        rcases min2_cases (singleI x + ed a (y :: b)) (singleI y + ed (x :: a) b) with h | h <;> rw [h]
        · exact (ih (y :: b)).del x
        · exact ihb.ins y

theorem Al.cast {a b : List Tk} {n m : Int} (h : Al a b n) (e : n = m) : Al a b m := e ▸ h
theorem Al.pair_end {x y : Tk} {a b : List Tk} {n : Int} (hc : costOk x y = true) (h : Al a b n) : Al (a ++ [x]) (b ++ [y]) (costI x y + n) :=
  Al.ind (M := fun a b n => Al (a ++ [x]) (b ++ [y]) (costI x y + n)) (Al.nil.pair hc) (fun _ _ _ _ _ hc h => (h.pair hc).cast (by omega)) (fun _ _ _ _ h => (h.del _).cast (by omega)) (fun _ _ _ _ h => (h.ins _).cast (by omega)) h
theorem Al.del_end {a b : List Tk} {n : Int} (x : Tk) (h : Al a b n) : Al (a ++ [x]) b (singleI x + n) :=
  Al.ind (M := fun a b n => Al (a ++ [x]) b (singleI x + n)) (Al.nil.del x) (fun _ _ _ _ _ hc h => (h.pair hc).cast (by omega)) (fun _ _ _ _ h => (h.del _).cast (by omega)) (fun _ _ _ _ h => (h.ins _).cast (by omega)) h
theorem Al.ins_end {a b : List Tk} {n : Int} (y : Tk) (h : Al a b n) : Al a (b ++ [y]) (singleI y + n) :=
  Al.ind (M := fun a b n => Al a (b ++ [y]) (singleI y + n)) (Al.nil.ins y) (fun _ _ _ _ _ hc h => (h.pair hc).cast (by omega)) (fun _ _ _ _ h => (h.del _).cast (by omega)) (fun _ _ _ _ h => (h.ins _).cast (by omega)) h
theorem Al.rev {a b : List Tk} {n : Int} (h : Al a b n) : Al a.reverse b.reverse n :=
  Al.ind (M := fun a b n => Al a.reverse b.reverse n) Al.nil (fun x y a b n hc h => by rw [List.reverse_cons, List.reverse_cons]; exact h.pair_end hc) (fun x a b n h => by rw [List.reverse_cons]; exact h.del_end x)
    (fun y a b n h => by rw [List.reverse_cons]; exact h.ins_end y) h
theorem ed_rev (a b : List Tk) : ed a.reverse b.reverse = ed a b := by
  have h1 := ed_le (ed_al a b).rev
  have h2 := ed_le (ed_al a.reverse b.reverse).rev
  rw [List.reverse_reverse, List.reverse_reverse] at h2
  omega
theorem Al.symm {a b : List Tk} {n : Int} (h : Al a b n) : Al b a n :=
  Al.ind (M := fun a b n => Al b a n) Al.nil (fun x y a b n hc h => by rw [costI_symm (costOk_kind hc)]; exact h.pair (by rw [costOk_symm]; exact hc)) (fun x a b n h => h.ins x) (fun y a b n h => h.del y) h
theorem ed_symm (a b : List Tk) : ed a b = ed b a := by
  have h1 := ed_le (ed_al a b).symm
  have h2 := ed_le (ed_al b a).symm
  omega

/-- Two alignments, one behind the other. -/
theorem Al.tri : ∀ (N k l : Nat) (a b c : List Tk) (n m : Int), k + l ≤ N → AlF k a b n → AlF l b c m → ∃ p, p ≤ n + m ∧ Al a c p
  | 0, k, l, a, b, c, n, m, hN, h1, h2 => by
    obtain rfl : k = 0 := by omega
    obtain rfl : l = 0 := by omega
    obtain ⟨rfl, rfl, rfl⟩ := h1
    obtain ⟨_, rfl, rfl⟩ := h2
    exact ⟨0, by omega, Al.nil⟩
  | N + 1, k, l, a, b, c, n, m, hN, h1, h2 => by
    have hdel : ∀ x a' n', (∃ k', k = k' + 1 ∧ AlF k' a' b n') → a = x :: a' → n = singleI x + n' → ∃ p, p ≤ n + m ∧ Al a c p := by
      rintro x a' n' ⟨k', rfl, h⟩ rfl rfl
      obtain ⟨p, hp, ha⟩ := Al.tri N k' l a' b c n' m (by omega) h h2
      exact ⟨singleI x + p, by omega, ha.del x⟩
    have hins : ∀ z c' m', (∃ l', l = l' + 1 ∧ AlF l' b c' m') → c = z :: c' → m = singleI z + m' → ∃ p, p ≤ n + m ∧ Al a c p := by
      rintro z c' m' ⟨l', rfl, h⟩ rfl rfl
      obtain ⟨p, hp, ha⟩ := Al.tri N k l' a b c' n m' (by omega) h1 h
      exact ⟨singleI z + p, by omega, ha.ins z⟩
    cases k with
    | zero =>
      obtain ⟨rfl, rfl, rfl⟩ := h1
      cases l with
      | zero =>
        obtain ⟨_, rfl, rfl⟩ := h2
        exact ⟨0, by omega, Al.nil⟩
      | succ l =>
        rcases h2 with ⟨x, a', y, b', m', h, _⟩ | ⟨x, a', m', h, _⟩ | ⟨y, b', m', rfl, rfl, h⟩
        · cases h
        · cases h
        · exact hins y b' m' ⟨l, rfl, h⟩ rfl rfl
    | succ k =>
      rcases h1 with ⟨x, a', y, b', n', rfl, rfl, hc, rfl, g1⟩ | ⟨x, a', n', rfl, rfl, g1⟩ | ⟨y, b', n', rfl, rfl, g1⟩
      · cases l with
        | zero => obtain ⟨h, _⟩ := h2; cases h
        | succ l =>
          rcases h2 with ⟨y', b'', z, c', m', h, rfl, hc2, rfl, g2⟩ | ⟨y', b'', m', h, rfl, g2⟩ | ⟨z, c', m', rfl, rfl, g2⟩
          · injection h with e1 e2
            subst e1 e2
            obtain ⟨p, hp, ha⟩ := Al.tri N k l a' b' c' n' m' (by omega) g1 g2
            obtain ⟨t1, t2⟩ := cost_tri hc hc2
            exact ⟨costI x z + p, by omega, ha.pair t1⟩
          · injection h with e1 e2
            subst e1 e2
            obtain ⟨p, hp, ha⟩ := Al.tri N k l a' b' c n' m' (by omega) g1 g2
            have := single_kind (costOk_kind hc)
            have := costI_bd x y
            exact ⟨singleI x + p, by omega, ha.del x⟩
          · exact hins z c' m' ⟨l, rfl, g2⟩ rfl rfl
      · exact hdel x a' n' ⟨k, rfl, g1⟩ rfl rfl
      · cases l with
        | zero => obtain ⟨h, _⟩ := h2; cases h
        | succ l =>
          rcases h2 with ⟨y', b'', z, c', m', h, rfl, hc2, rfl, g2⟩ | ⟨y', b'', m', h, rfl, g2⟩ | ⟨z, c', m', rfl, rfl, g2⟩
          · injection h with e1 e2
            subst e1 e2
            obtain ⟨p, hp, ha⟩ := Al.tri N k l a b' c' n' m' (by omega) g1 g2
            have := single_kind (costOk_kind hc2)
            have := costI_bd y z
            exact ⟨singleI z + p, by omega, ha.ins z⟩
          · injection h with e1 e2
            subst e1 e2
            obtain ⟨p, hp, ha⟩ := Al.tri N k l a b' c n' m' (by omega) g1 g2
            have := single_bd y
            exact ⟨p, by omega, ha⟩
          · exact hins z c' m' ⟨l, rfl, g2⟩ rfl rfl
theorem ed_tri (a b c : List Tk) : ed a c ≤ ed a b + ed b c := by
  obtain ⟨k, h1⟩ := ed_al a b
  obtain ⟨l, h2⟩ := ed_al b c
  obtain ⟨p, hp, h⟩ := Al.tri _ k l a b c _ _ (Nat.le_refl _) h1 h2
  have := ed_le h
  omega
theorem ed_self (a : List Tk) : ed a a = 0 := by
  induction a with
  | nil => rfl
  | cons x a ih =>
    have h1 := ed_pair x x a a (costOk_refl x)
    have h2 := ed_nonneg (x :: a) (x :: a)
    rw [costI_refl] at h1
    omega
theorem ed_grow (y : Tk) (b : List Tk) : ed (y :: b) b ≤ singleI y := by
  have h1 := ed_del y b b
  have h2 := ed_self b
  omega
/-- A token at both heads does not count. -/
theorem ed_head (x : Tk) (a b : List Tk) : ed (x :: a) (x :: b) = ed a b := by
  have h1 := ed_pair x x a b (costOk_refl x)
  rw [costI_refl] at h1
  have h2 : ed a b ≤ ed (x :: a) (x :: b) := by
    rw [ed_cc_ok x x a b (costOk_refl x), costI_refl]
    have t1 := ed_tri a (x :: b) b
    have t2 := ed_grow x b
    have t3 := ed_tri a (x :: a) b
    have t4 := ed_grow x a
    rw [ed_symm (x :: a) a] at t4
    omega
  omega
theorem ed_heads (c a b : List Tk) : ed (c ++ a) (c ++ b) = ed a b := by
  induction c with
  | nil => rfl
  | cons x c ih => rw [List.cons_append, List.cons_append, ed_head, ih]
theorem ed_tails (c a b : List Tk) : ed (a ++ c) (b ++ c) = ed a b := by
  rw [← ed_rev, List.reverse_append, List.reverse_append, ed_heads, ed_rev]

/-- Zero alone for lists that are the same token by token. -/
def sameL (a b : List Tk) : Bool := a.length == b.length && (a.zip b).all fun p => sameB p.1 p.2
theorem sameL_nn : sameL [] [] = true := rfl
theorem sameL_cc (x y : Tk) (a b : List Tk) : sameL (x :: a) (y :: b) = (sameB x y && sameL a b) := by
  unfold sameL
  rw [List.zip_cons_cons, List.all_cons, List.length_cons, List.length_cons, Bool.eq_iff_iff]
  simp only [Bool.and_eq_true, beq_iff_eq]
  constructor
  · rintro ⟨h1, h2, h3⟩; exact ⟨h2, by omega, h3⟩
  · rintro ⟨h1, h2, h3⟩; exact ⟨by omega, h1, h3⟩
def Weighty (l : List Tk) : Prop := ∀ x ∈ l, 2 ≤ x.k ∧ x.k ≤ 9
theorem single_pos {x : Tk} (h : 2 ≤ x.k ∧ x.k ≤ 9) : 1 ≤ singleI x := by
  unfold singleI weightI
  repeat' split
  all_goals omega
theorem cost_zero {x y : Tk} (h : 2 ≤ x.k ∧ x.k ≤ 9) (h0 : costI x y ≤ 0) : sameB x y = true := by
  by_cases hs : sameB x y = true
  · exact hs
  · exfalso
    unfold costI at h0
    rw [if_neg hs] at h0
    unfold weightI at h0
    revert h0
    repeat' split
    all_goals omega
theorem ed_zero (a : List Tk) : ∀ b, Weighty a → Weighty b → (ed a b = 0 ↔ sameL a b = true) := by
  induction a with
  | nil =>
    intro b _ hb
    cases b with
    | nil => simp [ed_nn, sameL_nn]
    | cons y b =>
      rw [ed_nc]
      have h1 := single_pos (hb y (by simp))
      have h2 := ed_nonneg [] b
      have h3 : sameL [] (y :: b) = false := rfl
      rw [h3]
      constructor
      · intro h; omega
      · intro h; cases h
  | cons x a ih =>
    intro b ha hb
    have h1 := single_pos (ha x (by simp))
    cases b with
    | nil =>
      rw [ed_cn]
      have h2 := ed_nonneg a []
      have h3 : sameL (x :: a) [] = false := rfl
      rw [h3]
      constructor
      · intro h; omega
      · intro h; cases h
    | cons y b =>
      have h2 := single_pos (hb y (by simp))
      have h3 := ed_nonneg a (y :: b)
      have h4 := ed_nonneg (x :: a) b
      have h5 := ed_nonneg a b
      have h6 := costI_bd x y
      have ih' := ih b (fun z hz => ha z (by simp [hz])) (fun z hz => hb z (by simp [hz]))
      rw [sameL_cc, Bool.and_eq_true, ← ih']
      by_cases hc : costOk x y = true
      · rw [ed_cc_ok _ _ _ _ hc]
        constructor
        · intro h
          exact ⟨cost_zero (ha x (by simp)) (by omega), by omega⟩
        · rintro ⟨h, h'⟩
          have : costI x y = 0 := by unfold costI; rw [if_pos h]
          omega
      · rw [ed_cc_no _ _ _ _ (by simpa using hc)]
        constructor
        · intro h; omega
        · rintro ⟨h, _⟩
          exact absurd (show costOk x y = true by unfold costOk; rw [h]; rfl) hc

end Go.Proofs.Yteccphcophjhpaa
