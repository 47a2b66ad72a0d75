
/-
  Plain functions for chapter 12: the price of a script, as the program counts it and as the reference counts it; no program in sight.
-/
import Derived.Test.YteccphcophjhpaaMathAlign
namespace Go.Proofs.Yteccphcophjhpaa
open Go.RowKit

/-- A place in both lists and the sum so far. -/
structure PS where
  i : Nat
  k : Nat
  s : Int
def prS (a b : List Tk) (q : PS) (e : Ed) : Option PS :=
  if h : e.A = q.i ∧ q.i < a.length then
    if hq : e.B = q.k ∧ q.k < b.length then
      if costOk (a[q.i]'h.2) (b[q.k]'hq.2) = true then some ⟨q.i + 1, q.k + 1, q.s + costI (a[q.i]'h.2) (b[q.k]'hq.2)⟩ else none
    else if e.B = -1 then some ⟨q.i + 1, q.k, q.s + singleI (a[q.i]'h.2)⟩ else none
  else if e.A = -1 then
    if hq : e.B = q.k ∧ q.k < b.length then some ⟨q.i, q.k + 1, q.s + singleI (b[q.k]'hq.2)⟩ else none
  else none
def prF (a b : List Tk) : List Ed → PS → Option PS
  | [], q => some q
  | e :: l, q => (prS a b q e).bind (prF a b l)
def prE (a b : List Tk) (q : PS) : Option Int := if q.i = a.length ∧ q.k = b.length then some (q.s + 2 * supI a b) else none
/-- The price of a script; none: it does not fit. -/
def priceO (a b : List Tk) (l : List Ed) : Option Int := (prF a b l ⟨0, 0, 0⟩).bind (prE a b)

/-- What the sum keeps to. -/
structure POk (a b : List Tk) (q : PS) : Prop where
  hi : q.i ≤ a.length
  hk : q.k ≤ b.length
  s0 : 0 ≤ q.s
  s1 : q.s ≤ 4 * (q.i + q.k)
theorem POk.start (a b : List Tk) : POk a b ⟨0, 0, 0⟩ := ⟨Nat.zero_le _, Nat.zero_le _, Int.le_refl _, Int.le_refl _⟩
theorem prS_ok {a b : List Tk} {q q' : PS} {e : Ed} (h : POk a b q) (hs : prS a b q e = some q') : POk a b q' := by
  obtain ⟨h1, h2, h3, h4⟩ := h
  unfold prS at hs
  split at hs
  · rename_i g
    split at hs
    · rename_i gq
      have := costI_bd (a[q.i]'g.2) (b[q.k]'gq.2)
      split at hs
      · injection hs with hs
        subst hs
        exact ⟨g.2, gq.2, by show 0 ≤ q.s + _; omega, by show q.s + _ ≤ 4 * (((q.i + 1 : Nat) : Int) + ((q.k + 1 : Nat) : Int)); omega⟩
      · cases hs
    · have := single_bd (a[q.i]'g.2)
      split at hs
      · injection hs with hs
        subst hs
        exact ⟨g.2, h2, by show 0 ≤ q.s + _; omega, by show q.s + _ ≤ 4 * (((q.i + 1 : Nat) : Int) + (q.k : Int)); omega⟩
      · cases hs
  · split at hs
    · split at hs
      · rename_i gq
        have := single_bd (b[q.k]'gq.2)
        injection hs with hs
        subst hs
        exact ⟨h1, gq.2, by show 0 ≤ q.s + _; omega, by show q.s + _ ≤ 4 * ((q.i : Int) + ((q.k + 1 : Nat) : Int)); omega⟩
      · cases hs
    · cases hs

/-! ### The reference: what goes out, what comes in -/
structure RS where
  i : Nat
  k : Nat
  p : Int
  o : List Tk
  n : List Tk
def rpS (a b : List Tk) (q : RS) (e : Ed) : Option RS :=
  if h : e.A = -1 ∧ e.B = q.k ∧ q.k < b.length then some ⟨q.i, q.k + 1, q.p, q.o, q.n ++ [b[q.k]'h.2.2]⟩
  else if h : e.B = -1 ∧ e.A = q.i ∧ q.i < a.length then some ⟨q.i + 1, q.k, q.p, q.o ++ [a[q.i]'h.2.2], q.n⟩
  else if h : e.A = q.i ∧ e.B = q.k ∧ q.i < a.length ∧ q.k < b.length then
    if costOk (a[q.i]'h.2.2.1) (b[q.k]'h.2.2.2) = true then some ⟨q.i + 1, q.k + 1, q.p + costI (a[q.i]'h.2.2.1) (b[q.k]'h.2.2.2), q.o, q.n⟩ else none
  else none
def rpF (a b : List Tk) : List Ed → RS → Option RS
  | [], q => some q
  | e :: l, q => (rpS a b q e).bind (rpF a b l)

/-- The weights of what is no tag. -/
def wN : List Tk → Int
  | [] => 0
  | x :: l => (if isTagB x = true then 0 else weightI x.k) + wN l
theorem wN_append (l m : List Tk) : wN (l ++ m) = wN l + wN m := by
  induction l with
  | nil => simp [wN]
  | cons x l ih => rw [List.cons_append, wN, wN, ih]; omega
theorem wN_take (l : List Tk) (k : Nat) (h : k < l.length) : wN (l.take (k + 1)) = wN (l.take k) + if isTagB l[k] = true then 0 else weightI l[k].k := by
  rw [List.take_succ_eq_append_getElem h, wN_append]
  simp [wN]
theorem wN_bd (l : List Tk) : 0 ≤ wN l ∧ wN l ≤ 4 * l.length := by
  induction l with
  | nil => exact ⟨Int.le_refl _, Int.le_refl _⟩
  | cons x l ih =>
    have := weightI_bd x.k
    rw [wN, List.length_cons]
    split <;> omega
def sg : List Tk → Int
  | [] => 0
  | x :: l => singleI x + sg l
theorem sg_append (l m : List Tk) : sg (l ++ m) = sg l + sg m := by
  induction l with
  | nil => simp [sg]
  | cons x l ih => rw [List.cons_append, sg, sg, ih]; omega
theorem sg_wN (l : List Tk) : sg l = wN l + (keysOf l).length := by
  induction l with
  | nil => rfl
  | cons x l ih =>
    rw [sg, wN, keysOf_cons, ih]
    unfold singleI
    by_cases h : isTagB x = true
    · rw [if_pos h, if_pos h, if_pos h, List.length_cons]; omega
    · rw [if_neg h, if_neg h, if_neg h]; omega

def fO (o n : List Tk) (x : Tk) : Int := 2 * min (cntI o x) (cntI n x) + 3 * (max (cntI o x) (cntI n x) - min (cntI o x) (cntI n x))
def rO (o n : List Tk) (k : Nat) : Int := wN (o.take k) + sumOn (nubl (keysOf (o.take k))) (fO o n)
def rI (o n : List Tk) (k : Nat) : Int := wN (n.take k) + sumOn ((nubl (keysOf (n.take k))).filter fun x => !decide (x ∈ keysOf o)) (fun x => 3 * cntI n x)
def rpE (a b : List Tk) (q : RS) : Option Int := if q.i = a.length ∧ q.k = b.length then some (q.p + rO q.o q.n q.o.length + rI q.o q.n q.n.length) else none
theorem rO_zero (o n : List Tk) : rO o n 0 = 0 := rfl
theorem rI_zero (o n : List Tk) : rI o n 0 = 0 := rfl
theorem nub_step (l : List Tk) (f : Tk → Int) (k : Nat) (h : k < l.length) : sumOn (nubl (keysOf (l.take (k + 1)))) f = sumOn (nubl (keysOf (l.take k))) f + if isTagB l[k] = true ∧ timesN (l.take k) l[k] = 0 then f (kf l[k]) else 0 := by
  rw [keysOf_snoc l k h]
  by_cases ht : isTagB l[k] = true
  · rw [if_pos ht, nubl_snoc]
    by_cases hs : timesN (l.take k) l[k] = 0
    · rw [if_pos ⟨ht, hs⟩, nubS, if_neg (by rw [nubl_mem]; exact (seen_iff _ _ ht).1 hs), sumOn_append]
      simp [sumOn]
    · rw [if_neg (fun e => hs e.2), nubS, if_pos (by rw [nubl_mem]; exact Classical.byContradiction fun hn => hs ((seen_iff _ _ ht).2 hn)), Int.add_zero]
  · rw [if_neg ht, if_neg (fun e => ht e.1), Int.add_zero]
theorem nub_stepF (l : List Tk) (f : Tk → Int) (o : List Tk) (k : Nat) (h : k < l.length) : sumOn ((nubl (keysOf (l.take (k + 1)))).filter fun x => !decide (x ∈ keysOf o)) f = sumOn ((nubl (keysOf (l.take k))).filter fun x => !decide (x ∈ keysOf o)) f + if isTagB l[k] = true ∧ timesN (l.take k) l[k] = 0 ∧ timesN o l[k] = 0 then f (kf l[k]) else 0 := by
  rw [keysOf_snoc l k h]
  by_cases ht : isTagB l[k] = true
  · rw [if_pos ht, nubl_snoc]
    by_cases hs : timesN (l.take k) l[k] = 0
    · rw [nubS, if_neg (by rw [nubl_mem]; exact (seen_iff _ _ ht).1 hs), List.filter_append, sumOn_append]
      congr 1
      by_cases ha : timesN o l[k] = 0
      · rw [if_pos ⟨ht, hs, ha⟩]
        have := (seen_iff o l[k] ht).1 ha
        simp [sumOn, this]
      · rw [if_neg (fun e => ha e.2.2)]
        have : kf l[k] ∈ keysOf o := Classical.byContradiction fun hn => ha ((seen_iff o l[k] ht).2 hn)
        simp [sumOn, this]
    · rw [if_neg (fun e => hs e.2.1), nubS, if_pos (by rw [nubl_mem]; exact Classical.byContradiction fun hn => hs ((seen_iff _ _ ht).2 hn)), Int.add_zero]
  · rw [if_neg ht, if_neg (fun e => ht e.1), Int.add_zero]
theorem rO_tag (o n : List Tk) (k : Nat) (h : k < o.length) (ht : isTagB o[k] = true) (hs : timesN (o.take k) o[k] = 0) :
    rO o n (k + 1) = rO o n k + (2 * min (timesN o o[k] : Int) (timesN n o[k] : Int) + 3 * (max (timesN o o[k] : Int) (timesN n o[k] : Int) - min (timesN o o[k] : Int) (timesN n o[k] : Int))) := by
  unfold rO
  rw [nub_step o _ k h, if_pos ⟨ht, hs⟩, wN_take o k h, if_pos ht, timesN_tag _ _ ht, timesN_tag _ _ ht]
  unfold fO
  omega
theorem rO_seen (o n : List Tk) (k : Nat) (h : k < o.length) (ht : isTagB o[k] = true) (hs : timesN (o.take k) o[k] ≠ 0) : rO o n (k + 1) = rO o n k := by
  unfold rO
  rw [nub_step o _ k h, if_neg (fun e => hs e.2), wN_take o k h, if_pos ht]
  omega
theorem rO_none (o n : List Tk) (k : Nat) (h : k < o.length) (ht : isTagB o[k] = false) : rO o n (k + 1) = rO o n k + weightI o[k].k := by
  have ht' : ¬ isTagB o[k] = true := by simp [ht]
  unfold rO
  rw [nub_step o _ k h, if_neg (fun e => ht' e.1), wN_take o k h, if_neg ht']
  omega
theorem rI_tag (o n : List Tk) (k : Nat) (h : k < n.length) (ht : isTagB n[k] = true) (hs : timesN (n.take k) n[k] = 0) (ho : timesN o n[k] = 0) : rI o n (k + 1) = rI o n k + 3 * (timesN n n[k] : Int) := by
  unfold rI
  rw [nub_stepF n _ o k h, if_pos ⟨ht, hs, ho⟩, wN_take n k h, if_pos ht, timesN_tag _ _ ht]
  omega
theorem rI_seen (o n : List Tk) (k : Nat) (h : k < n.length) (ht : isTagB n[k] = true) (hs : ¬ (timesN (n.take k) n[k] = 0 ∧ timesN o n[k] = 0)) : rI o n (k + 1) = rI o n k := by
  unfold rI
  rw [nub_stepF n _ o k h, if_neg (fun e => hs e.2), wN_take n k h, if_pos ht]
  omega
theorem rI_none (o n : List Tk) (k : Nat) (h : k < n.length) (ht : isTagB n[k] = false) : rI o n (k + 1) = rI o n k + weightI n[k].k := by
  have ht' : ¬ isTagB n[k] = true := by simp [ht]
  unfold rI
  rw [nub_stepF n _ o k h, if_neg (fun e => ht' e.1), wN_take n k h, if_neg ht']
  omega

theorem sumOn_unit (x : Tk) : ∀ u : List Tk, u.Nodup → x ∈ u → sumOn u (fun y => if y = x then 1 else 0) = 1 := by
  intro u hu hx
  rw [sumOn_erase _ hx, if_pos rfl, sumOn_zero]
  · rfl
  · intro y hy
    rw [if_neg]
    intro e
    subst e
    exact (List.Nodup.not_mem_erase hu) hy
theorem count_all (l : List Tk) : ∀ u : List Tk, u.Nodup → (∀ x ∈ l, x ∈ u) → sumOn u (fun x => (l.count x : Int)) = l.length := by
  induction l with
  | nil => intro u _ _; exact sumOn_zero fun x _ => rfl
  | cons y l ih =>
    intro u hu h
    have e : sumOn u (fun x => (List.count x (y :: l) : Int)) = sumOn u (fun x => (List.count x l : Int) + (if x = y then 1 else 0)) := sumOn_congr fun x _ => by
      rw [List.count_cons]
      by_cases hxy : x = y
      · subst hxy; simp
      · have : ¬ y = x := fun e => hxy e.symm
        simp [hxy, this]
    rw [e, sumOn_add, ih u hu (fun x hx => h x (List.mem_cons_of_mem _ hx)), sumOn_unit y u hu (h y (List.mem_cons_self)), List.length_cons]
    omega
theorem fO_eq (o n : List Tk) (x : Tk) : fO o n x = (cntI o x + cntI n x) + 2 * difI o n x := by
  unfold fO difI absI
  omega
/-- What the reference adds for what went out and came in. -/
theorem ref_sum (o n : List Tk) : rO o n o.length + rI o n n.length = sg o + sg n + 2 * supI o n := by
  unfold rO rI
  rw [List.take_length, List.take_length]
  have e : sumOn ((nubl (keysOf n)).filter fun x => !decide (x ∈ keysOf o)) (fun x => 3 * cntI n x) = sumOn ((nubl (keysOf n)).filter fun x => !decide (x ∈ keysOf o)) (fO o n) := by
    refine sumOn_congr fun x hx => ?_
    have hx' := (List.mem_filter.1 hx).2
    have hn : x ∉ keysOf o := by simpa using hx'
    have := cntI_nonneg n x
    unfold fO
    rw [cntI_zero hn]
    omega
  have hu : (nubl (keysOf o) ++ (nubl (keysOf n)).filter fun x => !decide (x ∈ keysOf o)).Nodup := by
    refine List.nodup_append.2 ⟨nodup_nubl _, (nodup_nubl _).filter _, fun x hx y hy e => ?_⟩
    subst e
    have h1 := (nubl_mem _ _).1 hx
    have h2 := (List.mem_filter.1 hy).2
    simp [h1] at h2
  have hm : ∀ x, x ∈ keysOf o ∨ x ∈ keysOf n → x ∈ nubl (keysOf o) ++ (nubl (keysOf n)).filter fun x => !decide (x ∈ keysOf o) := by
    intro x hx
    rw [List.mem_append, nubl_mem, List.mem_filter, nubl_mem]
    by_cases ha : x ∈ keysOf o
    · exact .inl ha
    · rcases hx with h | h
      · exact absurd h ha
      · exact .inr ⟨h, by simp [ha]⟩
  have h1 := supI_on hu hm
  have h2 := count_all (keysOf o) _ hu (fun x hx => hm x (.inl hx))
  have h3 := count_all (keysOf n) _ hu (fun x hx => hm x (.inr hx))
  have h4 := sumOn_append (nubl (keysOf o)) ((nubl (keysOf n)).filter fun x => !decide (x ∈ keysOf o)) (fO o n)
  generalize nubl (keysOf o) ++ (nubl (keysOf n)).filter (fun x => !decide (x ∈ keysOf o)) = u at h1 h2 h3 h4
  rw [e]
  have h5 : sumOn u (fO o n) = sumOn u (cntI o) + sumOn u (cntI n) + 2 * sumOn u (difI o n) := by
    rw [← sumOn_add, ← sumOn_mul, ← sumOn_add]
    exact sumOn_congr fun x _ => fO_eq o n x
  have h6 : sumOn u (cntI o) = (keysOf o).length := h2
  have h7 : sumOn u (cntI n) = (keysOf n).length := h3
  rw [sg_wN, sg_wN]
  omega

/-- How the two readings hang together. -/
structure RelP (a b : List Tk) (q : PS) (r : RS) : Prop where
  ei : r.i = q.i
  ek : r.k = q.k
  es : q.s = r.p + sg r.o + sg r.n
  ec : ∀ x, cntI (a.take q.i) x - cntI (b.take q.k) x = cntI r.o x - cntI r.n x
theorem cntI_take (a : List Tk) (i : Nat) (h : i < a.length) (x : Tk) : cntI (a.take (i + 1)) x = cntI (a.take i) x + cntI [a[i]] x := by
  rw [List.take_succ_eq_append_getElem h, cntI_append]
theorem cost_keys {x y : Tk} (h : costOk x y = true) : keysOf [x] = keysOf [y] := by
  rw [keysOf_one, keysOf_one]
  have hk := costOk_kind h
  have ht : isTagB x = isTagB y := by unfold isTagB; rw [hk]
  rw [← ht]
  by_cases hx : isTagB x = true
  · rw [if_pos hx, if_pos hx]
    unfold costOk at h
    have hn : decide (5 ≤ x.k ∧ x.k ≤ 9) = false := by
      unfold isTagB at hx
      simp only [Bool.or_eq_true, beq_iff_eq] at hx
      have : ¬ (5 ≤ x.k ∧ x.k ≤ 9) := by omega
      simpa using this
    rw [hn, Bool.and_false, Bool.or_false] at h
    rw [(same_kf x y).1 h]
  · rw [if_neg hx, if_neg hx]
theorem rel_step {a b : List Tk} {q : PS} {r : RS} (e : Ed) (h : RelP a b q r) :
    (prS a b q e = none ∧ rpS a b r e = none) ∨ ∃ q' r', prS a b q e = some q' ∧ rpS a b r e = some r' ∧ RelP a b q' r' := by
  obtain ⟨i, k, s⟩ := q
  obtain ⟨i', k', p, o, n⟩ := r
  obtain ⟨h1, h2, h3, h4⟩ := h
  simp only at h1 h2 h3 h4
  subst h1 h2
  obtain ⟨eA, eB⟩ := e
  unfold prS rpS
  simp only
  by_cases hA : eA = (i' : Int) ∧ i' < a.length
  · have n1 : ¬ (eA = -1 ∧ eB = (k' : Int) ∧ k' < b.length) := fun e => by omega
    rw [dif_pos hA, dif_neg n1]
    by_cases hB : eB = (k' : Int) ∧ k' < b.length
    · have n2 : ¬ (eB = -1 ∧ eA = (i' : Int) ∧ i' < a.length) := fun e => by omega
      rw [dif_pos hB, dif_neg n2, dif_pos ⟨hA.1, hB.1, hA.2, hB.2⟩]
      by_cases hc : costOk (a[i']'hA.2) (b[k']'hB.2) = true
      · refine .inr ⟨_, _, if_pos hc, if_pos hc, rfl, rfl, ?_, fun x => ?_⟩
        · show s + _ = p + _ + sg o + sg n
          omega
        · show cntI (a.take (i' + 1)) x - cntI (b.take (k' + 1)) x = cntI o x - cntI n x
          have e1 := h4 x
          have e2 : cntI [a[i']'hA.2] x = cntI [b[k']'hB.2] x := by unfold cntI; rw [cost_keys hc]
          rw [cntI_take a i' hA.2, cntI_take b k' hB.2, e2]
          omega
      · exact .inl ⟨if_neg hc, if_neg hc⟩
    · rw [dif_neg hB]
      by_cases hB' : eB = -1
      · refine .inr ⟨_, _, if_pos hB', dif_pos ⟨hB', hA⟩, rfl, rfl, ?_, fun x => ?_⟩
        · show s + _ = p + sg (o ++ [_]) + sg n
          rw [sg_append]
          simp only [sg]
          omega
        · show cntI (a.take (i' + 1)) x - cntI (b.take k') x = cntI (o ++ [_]) x - cntI n x
          have e1 := h4 x
          rw [cntI_take a i' hA.2, cntI_append]
          omega
      · refine .inl ⟨if_neg hB', ?_⟩
        rw [dif_neg (fun e => hB' e.1), dif_neg (fun e => hB ⟨e.2.1, e.2.2.2⟩)]
  · rw [dif_neg hA]
    by_cases hA' : eA = -1
    · rw [if_pos hA']
      by_cases hB : eB = (k' : Int) ∧ k' < b.length
      · refine .inr ⟨_, _, dif_pos hB, dif_pos ⟨hA', hB⟩, rfl, rfl, ?_, fun x => ?_⟩
        · show s + _ = p + sg o + sg (n ++ [_])
          rw [sg_append]
          simp only [sg]
          omega
        · show cntI (a.take i') x - cntI (b.take (k' + 1)) x = cntI o x - cntI (n ++ [_]) x
          have e1 := h4 x
          rw [cntI_take b k' hB.2, cntI_append]
          omega
      · refine .inl ⟨dif_neg hB, ?_⟩
        rw [dif_neg (fun e => hB e.2), dif_neg (fun e => hA e.2), dif_neg (fun e => hA ⟨e.1, e.2.2.1⟩)]
    · refine .inl ⟨if_neg hA', ?_⟩
      rw [dif_neg (fun e => hA' e.1), dif_neg (fun e => hA e.2), dif_neg (fun e => hA ⟨e.1, e.2.2.1⟩)]
theorem rel_end {a b : List Tk} {q : PS} {r : RS} (h : RelP a b q r) : prE a b q = rpE a b r := by
  obtain ⟨h1, h2, h3, h4⟩ := h
  unfold prE rpE
  rw [h1, h2]
  by_cases hc : q.i = a.length ∧ q.k = b.length
  · rw [if_pos hc, if_pos hc]
    have := ref_sum r.o r.n
    have e : supI a b = supI r.o r.n := by
      rw [hc.1, hc.2, List.take_length, List.take_length] at h4
      have d : ∀ x, difI a b x = difI r.o r.n x := fun x => by unfold difI; rw [h4 x]
      have m1 : ∀ x, x ∈ keysOf a ∨ x ∈ keysOf b → x ∈ nub (keysOf a ++ keysOf b ++ (keysOf r.o ++ keysOf r.n)) := fun x hx => (mem_nub _ _).2 (by simp only [List.mem_append]; exact .inl hx)
      have m2 : ∀ x, x ∈ keysOf r.o ∨ x ∈ keysOf r.n → x ∈ nub (keysOf a ++ keysOf b ++ (keysOf r.o ++ keysOf r.n)) := fun x hx => (mem_nub _ _).2 (by simp only [List.mem_append]; exact .inr hx)
      rw [supI_on (nodup_nub _) m1, supI_on (nodup_nub _) m2]
      exact sumOn_congr fun x _ => d x
    rw [e]
    congr 1
    omega
  · rw [if_neg hc, if_neg hc]
theorem rel_all {a b : List Tk} : ∀ (l : List Ed) (q : PS) (r : RS), RelP a b q r → (prF a b l q).bind (prE a b) = (rpF a b l r).bind (rpE a b)
  | [], q, r, h => rel_end h
  | e :: l, q, r, h => by
    rw [prF, rpF]
    rcases rel_step e h with ⟨h1, h2⟩ | ⟨q', r', h1, h2, h3⟩
    · rw [h1, h2]; rfl
    · rw [h1, h2]
      exact rel_all l q' r' h3
theorem RelP.start (a b : List Tk) : RelP a b ⟨0, 0, 0⟩ ⟨0, 0, 0, [], []⟩ := ⟨rfl, rfl, rfl, fun _ => rfl⟩
/-- The reference's price is the program's. -/
theorem price_ref (a b : List Tk) (l : List Ed) : (rpF a b l ⟨0, 0, 0, [], []⟩).bind (rpE a b) = priceO a b l := (rel_all l _ _ (RelP.start a b)).symm

end Go.Proofs.Yteccphcophjhpaa
