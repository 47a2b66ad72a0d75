
/-
  Plain functions for chapter 12: the tags that one list has more than the other; no program in sight.
-/
import Derived.Test.YteccphcophjhpaaMathDist
namespace Go.Proofs.Yteccphcophjhpaa
open Go.RowKit

theorem Tk.eq_iff (a b : Tk) : a = b ↔ a.k = b.k ∧ a.t = b.t ∧ a.d = b.d := ⟨fun h => h ▸ ⟨rfl, rfl, rfl⟩, fun h => Tk.ext' h.1 h.2.1 h.2.2⟩
instance : DecidableEq Tk := fun a b => decidable_of_iff _ (Tk.eq_iff a b).symm

/-- The key of a tag: its kind and its text. -/
def kf (x : Tk) : Tk := ⟨x.k, x.t, 0⟩
def keysOf (l : List Tk) : List Tk := (l.filter isTagB).map kf
theorem keysOf_append (l m : List Tk) : keysOf (l ++ m) = keysOf l ++ keysOf m := by simp [keysOf]
theorem keysOf_cons (x : Tk) (l : List Tk) : keysOf (x :: l) = if isTagB x = true then kf x :: keysOf l else keysOf l := by
  unfold keysOf
  rw [List.filter_cons]
  split <;> rfl
theorem keysOf_take (l : List Tk) (k : Nat) (h : k < l.length) : keysOf (l.take (k + 1)) = keysOf (l.take k) ++ keysOf [l[k]] := by
  rw [List.take_succ_eq_append_getElem h, keysOf_append]
theorem keysOf_one (x : Tk) : keysOf [x] = if isTagB x = true then [kf x] else [] := by rw [keysOf_cons]; rfl
theorem keysOf_length (l : List Tk) : (keysOf l).length ≤ l.length := by
  unfold keysOf
  rw [List.length_map]
  exact List.length_filter_le _ _
theorem keysOf_mem {l : List Tk} {x : Tk} (h : x ∈ keysOf l) : ∃ y ∈ l, isTagB y = true ∧ kf y = x := by
  unfold keysOf at h
  obtain ⟨y, hy, rfl⟩ := List.mem_map.1 h
  obtain ⟨h1, h2⟩ := List.mem_filter.1 hy
  exact ⟨y, h1, h2, rfl⟩
theorem same_kf (x y : Tk) : sameB x y = true ↔ kf x = kf y := by
  rw [sameB_iff, Tk.eq_iff]
  exact ⟨fun h => ⟨h.1, h.2, rfl⟩, fun h => ⟨h.1, h.2.1⟩⟩

def nub : List Tk → List Tk
  | [] => []
  | x :: r => if x ∈ nub r then nub r else x :: nub r
theorem mem_nub (x : Tk) (l : List Tk) : x ∈ nub l ↔ x ∈ l := by
  induction l with
  | nil => simp [nub]
  | cons y l ih =>
    rw [nub]
    split
    · rename_i h
      rw [ih, List.mem_cons]
      refine ⟨.inr, fun h' => h'.elim (fun e => ?_) id⟩
      subst e
      exact ih.1 h
    · rw [List.mem_cons, List.mem_cons, ih]
theorem nodup_nub (l : List Tk) : (nub l).Nodup := by
  induction l with
  | nil => exact List.Pairwise.nil
  | cons y l ih =>
    rw [nub]
    split
    · exact ih
    · rename_i h
      exact List.nodup_cons.2 ⟨h, ih⟩

def sumOn (u : List Tk) (f : Tk → Int) : Int := (u.map f).sum
theorem sumOn_nil (f : Tk → Int) : sumOn [] f = 0 := rfl
theorem sumOn_cons (x : Tk) (u : List Tk) (f : Tk → Int) : sumOn (x :: u) f = f x + sumOn u f := by simp [sumOn]
theorem sumOn_append (u v : List Tk) (f : Tk → Int) : sumOn (u ++ v) f = sumOn u f + sumOn v f := by simp [sumOn]
theorem sumOn_congr {u : List Tk} {f g : Tk → Int} (h : ∀ x ∈ u, f x = g x) : sumOn u f = sumOn u g := by
  unfold sumOn
  rw [List.map_congr_left h]
theorem sumOn_le {u : List Tk} {f g : Tk → Int} (h : ∀ x ∈ u, f x ≤ g x) : sumOn u f ≤ sumOn u g := by
  induction u with
  | nil => exact Int.le_refl _
  | cons x u ih =>
    rw [sumOn_cons, sumOn_cons]
    have h1 := h x (by simp)
    have h2 := ih fun y hy => h y (by simp [hy])
    omega
theorem sumOn_add (u : List Tk) (f g : Tk → Int) : sumOn u (fun x => f x + g x) = sumOn u f + sumOn u g := by
  induction u with
  | nil => rfl
  | cons x u ih => rw [sumOn_cons, sumOn_cons, sumOn_cons, ih]; omega
theorem sumOn_mul (u : List Tk) (f : Tk → Int) (c : Int) : sumOn u (fun x => c * f x) = c * sumOn u f := by
  induction u with
  | nil => simp [sumOn]
  | cons x u ih => rw [sumOn_cons, sumOn_cons, ih, Int.mul_add]
theorem sumOn_zero {u : List Tk} {f : Tk → Int} (h : ∀ x ∈ u, f x = 0) : sumOn u f = 0 := by
  induction u with
  | nil => rfl
  | cons x u ih => rw [sumOn_cons, h x (by simp), ih fun y hy => h y (by simp [hy])]; rfl
theorem sumOn_nonneg {u : List Tk} {f : Tk → Int} (h : ∀ x ∈ u, 0 ≤ f x) : 0 ≤ sumOn u f := by
  have := sumOn_le (u := u) (f := fun _ => 0) (g := f) h
  rw [sumOn_zero (fun _ _ => rfl)] at this
  exact this
theorem sumOn_erase {v : List Tk} {t : Tk} (f : Tk → Int) (h : t ∈ v) : sumOn v f = f t + sumOn (v.erase t) f := by
  induction v with
  | nil => simp at h
  | cons y v ih =>
    by_cases e : y = t
    · subst e
      rw [List.erase_cons_head, sumOn_cons]
    · have h' : t ∈ v := (List.mem_cons.1 h).elim (fun e' => absurd e'.symm e) id
      rw [List.erase_cons_tail (by simpa using e), sumOn_cons, sumOn_cons, ih h']
      omega
/-- A sum over keys hangs on no order, and on no key that counts nothing. -/
theorem sumOn_cover (u : List Tk) : ∀ (v : List Tk) (f : Tk → Int), u.Nodup → v.Nodup → (∀ x, f x ≠ 0 → x ∈ u) → (∀ x, f x ≠ 0 → x ∈ v) → sumOn u f = sumOn v f := by
  induction u with
  | nil =>
    intro v f _ _ h _
    have h0 : ∀ x, f x = 0 := fun x => Classical.byContradiction fun h' => by have := h x h'; simp at this
    rw [sumOn_nil, sumOn_zero fun x _ => h0 x]
  | cons t u ih =>
    intro v f hu hv h1 h2
    obtain ⟨htu, hu'⟩ := List.nodup_cons.1 hu
    have e1 : sumOn u f = sumOn u (fun x => if x = t then 0 else f x) := sumOn_congr fun x hx => by
      rw [if_neg]
      intro e
      exact htu (e ▸ hx)
    have ih' := ih (v.erase t) (fun x => if x = t then 0 else f x) hu' (hv.erase _) (fun x hx => by
        by_cases e : x = t
        · rw [if_pos e] at hx; exact absurd rfl hx
        · rw [if_neg e] at hx
          exact (List.mem_cons.1 (h1 x hx)).elim (fun e' => absurd e' e) id) (fun x hx => by
        by_cases e : x = t
        · rw [if_pos e] at hx; exact absurd rfl hx
        · rw [if_neg e] at hx
          exact (List.mem_erase_of_ne e).2 (h2 x hx))
    have e2 : sumOn (v.erase t) (fun x => if x = t then 0 else f x) = sumOn (v.erase t) f := sumOn_congr fun x hx => by
      rw [if_neg]
      intro e
      subst e
      exact (List.Nodup.mem_erase_iff hv).1 hx |>.1 rfl
    rw [sumOn_cons, e1, ih', e2]
    by_cases ht : t ∈ v
    · rw [sumOn_erase f ht]
    · have : f t = 0 := Classical.byContradiction fun h' => ht (h2 t h')
      rw [List.erase_of_not_mem ht, this]
      omega

def cntI (l : List Tk) (x : Tk) : Int := ((keysOf l).count x : Int)
def absI (z : Int) : Int := max z (-z)
def difI (a b : List Tk) (x : Tk) : Int := absI (cntI a x - cntI b x)
/-- How many tags the lists differ in. -/
def supI (a b : List Tk) : Int := sumOn (nub (keysOf a ++ keysOf b)) (difI a b)
theorem cntI_nonneg (l : List Tk) (x : Tk) : 0 ≤ cntI l x := Int.natCast_nonneg _
theorem cntI_zero {l : List Tk} {x : Tk} (h : x ∉ keysOf l) : cntI l x = 0 := by unfold cntI; rw [List.count_eq_zero_of_not_mem h]; rfl
theorem cntI_append (l m : List Tk) (x : Tk) : cntI (l ++ m) x = cntI l x + cntI m x := by unfold cntI; rw [keysOf_append, List.count_append]; omega
theorem cntI_mem {l : List Tk} {x : Tk} (h : cntI l x ≠ 0) : x ∈ keysOf l := Classical.byContradiction fun h' => h (cntI_zero h')
theorem difI_mem {a b : List Tk} {x : Tk} (h : difI a b x ≠ 0) : x ∈ keysOf a ∨ x ∈ keysOf b := by
  by_cases ha : x ∈ keysOf a
  · exact .inl ha
  · by_cases hb : x ∈ keysOf b
    · exact .inr hb
    · exfalso
      apply h
      unfold difI absI
      rw [cntI_zero ha, cntI_zero hb]
      rfl
theorem difI_nonneg (a b : List Tk) (x : Tk) : 0 ≤ difI a b x := by unfold difI absI; omega
theorem supI_on {a b u : List Tk} (hu : u.Nodup) (h : ∀ x, x ∈ keysOf a ∨ x ∈ keysOf b → x ∈ u) : supI a b = sumOn u (difI a b) :=
  sumOn_cover _ _ _ (nodup_nub _) hu (fun x hx => by rw [mem_nub, List.mem_append]; exact difI_mem hx) (fun x hx => h x (difI_mem hx))
theorem supI_nonneg (a b : List Tk) : 0 ≤ supI a b := sumOn_nonneg fun x _ => difI_nonneg a b x
theorem supI_symm (a b : List Tk) : supI a b = supI b a := by
  rw [supI_on (nodup_nub (keysOf b ++ keysOf a)) (fun x hx => by rw [mem_nub, List.mem_append]; exact hx.symm)]
  refine sumOn_congr fun x _ => ?_
  unfold difI absI
  omega
theorem supI_self (a : List Tk) : supI a a = 0 := sumOn_zero fun x _ => by unfold difI absI; omega
theorem supI_tri (a b c : List Tk) : supI a c ≤ supI a b + supI b c := by
  have hn := nodup_nub (keysOf a ++ keysOf b ++ keysOf c)
  rw [supI_on (a := a) (b := c) hn (fun x hx => by rw [mem_nub, List.mem_append, List.mem_append]; rcases hx with h | h <;> simp [h]),
    supI_on (a := a) (b := b) hn (fun x hx => by rw [mem_nub, List.mem_append, List.mem_append]; rcases hx with h | h <;> simp [h]),
    supI_on (a := b) (b := c) hn (fun x hx => by rw [mem_nub, List.mem_append, List.mem_append]; rcases hx with h | h <;> simp [h]), ← sumOn_add]
  refine sumOn_le fun x _ => ?_
  unfold difI absI
  omega
theorem sumOn_length {u : List Tk} {f : Tk → Int} {c : Int} (h : ∀ x ∈ u, f x ≤ c) (_hc : 0 ≤ c) : sumOn u f ≤ c * u.length := by
  induction u with
  | nil => simp [sumOn_nil]
  | cons x u ih =>
    rw [sumOn_cons, List.length_cons]
    have h1 := h x (by simp)
    have h2 := ih fun y hy => h y (by simp [hy])
    rw [Int.natCast_add, Int.mul_add]
    omega
theorem count_sum (l : List Tk) : ∀ u : List Tk, u.Nodup → sumOn u (fun x => (l.count x : Int)) ≤ l.length := by
  induction l with
  | nil => intro u _; rw [sumOn_zero fun x _ => by simp]; simp
  | cons y l ih =>
    intro u hu
    have h1 := ih u hu
    have e : sumOn u (fun x => ((y :: l).count x : Int)) = sumOn u (fun x => (l.count x : Int)) + sumOn u (fun x => if x = y then 1 else 0) := by
      rw [← sumOn_add]
      refine sumOn_congr fun x _ => ?_
      rw [List.count_cons]
      by_cases h : x = y
      · subst h; simp
      · have h' : ¬ (y == x) = true := by simpa using fun e => h e.symm
        rw [if_neg h', if_neg h]
        omega
    have h2 : sumOn u (fun x => if x = y then (1 : Int) else 0) ≤ 1 := by
      clear h1 e ih
      induction u with
      | nil => rw [sumOn_nil]; decide
      | cons z u ihu =>
        obtain ⟨hz, hu'⟩ := List.nodup_cons.1 hu
        rw [sumOn_cons]
        by_cases e : z = y
        · subst e
          rw [if_pos rfl, sumOn_zero fun x hx => if_neg fun e : x = z => hz (e ▸ hx)]
          decide
        · rw [if_neg e]
          have := ihu hu'
          omega
    rw [e, List.length_cons]
    omega
theorem supI_bound (a b : List Tk) : supI a b ≤ a.length + b.length := by
  have hn := nodup_nub (keysOf a ++ keysOf b)
  have h1 := count_sum (keysOf a) _ hn
  have h2 := count_sum (keysOf b) _ hn
  have h3 := keysOf_length a
  have h4 := keysOf_length b
  have h5 : supI a b ≤ sumOn (nub (keysOf a ++ keysOf b)) (fun x => ((keysOf a).count x : Int) + ((keysOf b).count x : Int)) := by
    refine sumOn_le fun x _ => ?_
    have := cntI_nonneg a x
    have := cntI_nonneg b x
    unfold difI absI
    show max (cntI a x - cntI b x) (-(cntI a x - cntI b x)) ≤ cntI a x + cntI b x
    omega
  rw [sumOn_add] at h5
  omega
theorem supI_heads (c a b : List Tk) : supI (c ++ a) (c ++ b) = supI a b := by
  have hn := nodup_nub (keysOf c ++ (keysOf a ++ keysOf b))
  rw [supI_on (a := c ++ a) (b := c ++ b) hn (fun x hx => by rw [keysOf_append, keysOf_append, List.mem_append, List.mem_append] at hx; rw [mem_nub, List.mem_append, List.mem_append]; rcases hx with (h | h) | (h | h) <;> simp [h]),
    supI_on (a := a) (b := b) hn (fun x hx => by rw [mem_nub, List.mem_append, List.mem_append]; rcases hx with h | h <;> simp [h])]
  refine sumOn_congr fun x _ => ?_
  unfold difI absI
  rw [cntI_append, cntI_append]
  omega
theorem supI_tails (c a b : List Tk) : supI (a ++ c) (b ++ c) = supI a b := by
  have hn := nodup_nub (keysOf c ++ (keysOf a ++ keysOf b))
  rw [supI_on (a := a ++ c) (b := b ++ c) hn (fun x hx => by rw [keysOf_append, keysOf_append, List.mem_append, List.mem_append] at hx; rw [mem_nub, List.mem_append, List.mem_append]; rcases hx with (h | h) | (h | h) <;> simp [h]),
    supI_on (a := a) (b := b) hn (fun x hx => by rw [mem_nub, List.mem_append, List.mem_append]; rcases hx with h | h <;> simp [h])]
  refine sumOn_congr fun x _ => ?_
  unfold difI absI
  rw [cntI_append, cntI_append]
  omega

/-- The distance of two lists. -/
def distI (a b : List Tk) : Int := ed a b + 2 * supI a b
theorem distI_nonneg (a b : List Tk) : 0 ≤ distI a b := by
  have h1 := ed_nonneg a b
  have h2 := supI_nonneg a b
  unfold distI
  omega
theorem distI_symm (a b : List Tk) : distI a b = distI b a := by unfold distI; rw [ed_symm, supI_symm]
theorem distI_self (a : List Tk) : distI a a = 0 := by unfold distI; rw [ed_self, supI_self]; rfl
theorem distI_tri (a b c : List Tk) : distI a c ≤ distI a b + distI b c := by
  have h1 := ed_tri a b c
  have h2 := supI_tri a b c
  unfold distI
  omega
theorem distI_heads (c a b : List Tk) : distI (c ++ a) (c ++ b) = distI a b := by unfold distI; rw [ed_heads, supI_heads]
theorem distI_tails (c a b : List Tk) : distI (a ++ c) (b ++ c) = distI a b := by unfold distI; rw [ed_tails, supI_tails]
theorem sameL_keys (a : List Tk) : ∀ b, sameL a b = true → keysOf a = keysOf b := by
  induction a with
  | nil => intro b h; cases b with | nil => rfl | cons y b => cases h
  | cons x a ih =>
    intro b h
    cases b with
    | nil => cases h
    | cons y b =>
      rw [sameL_cc, Bool.and_eq_true] at h
      rw [keysOf_cons, keysOf_cons, ih b h.2, (same_kf x y).1 h.1]
      have : isTagB x = isTagB y := by unfold isTagB; rw [((sameB_iff x y).1 h.1).1]
      rw [this]
theorem distI_zero (a b : List Tk) (ha : Weighty a) (hb : Weighty b) : distI a b = 0 ↔ sameL a b = true := by
  have h1 := ed_nonneg a b
  have h2 := supI_nonneg a b
  have h3 := ed_zero a b ha hb
  unfold distI
  constructor
  · intro h
    exact h3.1 (by omega)
  · intro h
    have e : supI a b = 0 := sumOn_zero fun x _ => by
      unfold difI absI cntI
      rw [sameL_keys a b h]
      omega
    rw [h3.2 h, e]
    rfl
theorem distI_bound (a b : List Tk) : distI a b ≤ 6 * a.length + 6 * b.length := by
  have h1 := ed_bound a b
  have h2 := supI_bound a b
  unfold distI
  omega

end Go.Proofs.Yteccphcophjhpaa
