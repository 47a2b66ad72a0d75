
/-
  Tables under way: rows of the call's own.
-/
import Derived.Test.YtpboaadjbkaidaaDoorSegMem
namespace Go.Proofs.YtpboaadjbkaidaaDoor
set_option maxRecDepth 100000
open Go.RowKit

def blkL (v : Value) : List Nat := v.ownBlock.toList
theorem mem_blkL {v : Value} {b : Nat} : b ∈ blkL v ↔ v.ownBlock = some b := by unfold blkL; rw [Option.mem_toList]
theorem Keep.mono {X Y : List Nat} {w : World} {φ : World → Prop} (h : Keep Y w φ) (hXY : ∀ b ∈ X, b ∈ Y) : Keep X w φ :=
  fun u hu hk => h u hu fun b hb hY => hk b hb (fun hx => hY (hXY b hx))

/-- Tables under way; xs: the row's cells; rv: the rules of the last table; ys: their cells. -/
structure TS (eT eR : TypeId) (B : Nat) (w : World) (v : Value) (ts : List Tb) (xs : List TbV) (rv : Sl) (ys : List RuV) : Prop where
  own : OwnE eT tbC 3 w B v xs
  len : xs.length = ts.length
  ident : ∀ (i : Nat) (x : TbV) (t : Tb), xs[i]? = some x → ts[i]? = some t → x.nm = t.nm ∧ x.pa = t.pa
  front : ∀ (i : Nat) (x : TbV) (t : Tb), xs[i]? = some x → ts[i]? = some t → i + 1 < ts.length → Keep (blkL v ++ blkL rv.v) w fun u => RdRu u x.r.v t.rs
  rown : OwnE eR ruC 3 w B rv.v ys
  apart : ∀ k, v.ownBlock = some k → rv.v.ownBlock ≠ some k
  last : ∀ (i : Nat) (x : TbV) (t : Tb), xs[i]? = some x → ts[i]? = some t → i + 1 = ts.length → x.r = rv ∧ ys.length = t.rs.length ∧
    ∀ (j : Nat) (y : RuV) (r : Ru), ys[j]? = some y → t.rs[j]? = some r → y.b = r.br ∧ Keep (blkL v ++ blkL rv.v) w fun u => RdE atC 34 u y.u.v r.bf ∧ RdE atC 34 u y.t.v r.af

section
variable {eT eR : TypeId} {B : Nat} {w w' : World} {v : Value} {ts : List Tb} {xs : List TbV} {rv : Sl} {ys : List RuV}
theorem TS.start : TS eT eR B w (.slice none 0 0) [] [] ⟨none, 0, 0⟩ [] where
  own := OwnE.nil
  len := rfl
  ident := fun _ _ _ h => by simp at h
  front := fun _ _ _ h => by simp at h
  rown := OwnE.nil
  apart := fun k h => by simp [Value.ownBlock] at h
  last := fun _ _ _ h => by simp at h
/-- The rules of the last table. -/
theorem TS.lastRu (h : TS eT eR B w v ts xs rv ys) (i : Nat) (x : TbV) (t : Tb) (hx : xs[i]? = some x) (ht : ts[i]? = some t) (hi : i + 1 = ts.length) {X : List Nat} (hX : ∀ b ∈ X, b ∈ blkL v) : Keep X w fun u => RdRu u x.r.v t.rs := by
  obtain ⟨e, hl, hy⟩ := h.last i x t hx ht hi
  subst e
  have h1 := OwnE.keepX (X := X) ruC_len h.rown (fun b hb => .inr (h.apart b (mem_blkL.1 (hX b hb))))
  intro u hu hk
  refine ⟨ys, h1 u hu hk, hl, fun j y r hyj hrj => ?_⟩
  have h2 := hy j y r hyj hrj
  exact ⟨h2.1, (h2.2.mono (fun b hb => List.mem_append_left _ (hX b hb))) u hu hk⟩
theorem TS.rd (h : TS eT eR B w v ts xs rv ys) : RdTb w v ts := by
  refine ⟨xs, h.own.rd tbC_len, h.len, fun i x t hx ht => ⟨(h.ident i x t hx ht).1, (h.ident i x t hx ht).2, ?_⟩⟩
  have hi : i < ts.length := (List.getElem?_eq_some_iff.1 ht).1
  by_cases hl : i + 1 < ts.length
  · exact (h.front i x t hx ht hl).now
  · exact (h.lastRu i x t hx ht (by omega) (X := []) (by simp)).now
/-- The world turns, but for the rows' blocks. -/
theorem TS.keep (h : TS eT eR B w v ts xs rv ys) (hs : w.heap.size ≤ w'.heap.size) (hk : ∀ b, b < w.heap.size → w'.heap[b]? = w.heap[b]?) : TS eT eR B w' v ts xs rv ys where
  own := own_same h.own fun k hk2 => hk k (h.own.lt k hk2).2
  len := h.len
  ident := h.ident
  front := fun i x t hx ht hl => (h.front i x t hx ht hl).step hs fun b hb hX => ⟨hk b hb, hX⟩
  rown := own_same h.rown fun k hk2 => hk k (h.rown.lt k hk2).2
  apart := h.apart
  last := fun i x t hx ht hl => ⟨(h.last i x t hx ht hl).1, (h.last i x t hx ht hl).2.1, fun j y r hy hr => ⟨((h.last i x t hx ht hl).2.2 j y r hy hr).1, ((h.last i x t hx ht hl).2.2 j y r hy hr).2.step hs fun b hb hX => ⟨hk b hb, hX⟩⟩⟩
theorem TS.below (h : TS eT eR B w v ts xs rv ys) {C : Nat} (hb : Below C w w') (hC : w.heap.size ≤ C) : TS eT eR B w' v ts xs rv ys :=
  h.keep hb.size fun b hlt => hb.block b (Nat.lt_of_lt_of_le hlt hC)
/-- A table more. -/
theorem TS.push (h : TS eT eR B w v ts xs rv ys) {v' : Value} (nm pa : ByteArray) (hown : OwnE eT tbC 3 w' B v' (xs ++ [⟨nm, pa, ⟨none, 0, 0⟩⟩])) (hg : w.grownBy w' v.ownBlock) (hat : v'.ownBlock = v.ownBlock ∨ v'.ownBlock = some w.heap.size) :
    TS eT eR B w' v' (ts ++ [⟨nm, pa, []⟩]) (xs ++ [⟨nm, pa, ⟨none, 0, 0⟩⟩]) ⟨none, 0, 0⟩ [] := by
  have hnew : ∀ b, b < w.heap.size → b ∉ blkL v → w'.heap[b]? = w.heap[b]? ∧ b ∉ blkL v' ++ blkL (Sl.v ⟨none, 0, 0⟩) := fun b hb hX => by
    refine ⟨hg.block b hb (fun e => hX (mem_blkL.2 e.symm)), fun hm => ?_⟩
    rcases List.mem_append.1 hm with hm | hm
    · have := mem_blkL.1 hm
      rcases hat with e | e
      · exact hX (mem_blkL.2 (e ▸ this))
      · rw [e] at this; injection this with this; omega
    · have := mem_blkL.1 hm
      simp [Sl.v, Value.ownBlock] at this
  have hl : ∀ (i : Nat) (x : TbV) (t : Tb), (xs ++ [⟨nm, pa, ⟨none, 0, 0⟩⟩])[i]? = some x → (ts ++ [⟨nm, pa, []⟩])[i]? = some t → (i < ts.length ∧ xs[i]? = some x ∧ ts[i]? = some t) ∨ (i = ts.length ∧ x = ⟨nm, pa, ⟨none, 0, 0⟩⟩ ∧ t = ⟨nm, pa, []⟩) := fun i x t hx ht => by
    have hi : i < ts.length + 1 := by have := (List.getElem?_eq_some_iff.1 ht).1; simpa using this
    by_cases h1 : i < ts.length
    · refine .inl ⟨h1, ?_, ?_⟩
      · rw [List.getElem?_append_left (by rw [h.len]; exact h1)] at hx; exact hx
      · rw [List.getElem?_append_left h1] at ht; exact ht
    · have h2 : i = ts.length := by omega
      subst h2
      refine .inr ⟨rfl, ?_, ?_⟩
      · rw [List.getElem?_append_right (by rw [h.len]; exact Nat.le_refl _), h.len, Nat.sub_self] at hx
        simpa using hx.symm
      · rw [List.getElem?_append_right (Nat.le_refl _), Nat.sub_self] at ht
        simpa using ht.symm
  refine ⟨hown, by simp [h.len], fun i x t hx ht => ?_, fun i x t hx ht hi => ?_, OwnE.nil, fun k _ => by simp [Sl.v, Value.ownBlock], fun i x t hx ht hi => ?_⟩
  · rcases hl i x t hx ht with ⟨_, h2, h3⟩ | ⟨_, rfl, rfl⟩
    · exact h.ident i x t h2 h3
    · exact ⟨rfl, rfl⟩
  · rcases hl i x t hx ht with ⟨h1, h2, h3⟩ | ⟨h1, _, _⟩
    · have hk : Keep (blkL v) w fun u => RdRu u x.r.v t.rs := by
        by_cases h4 : i + 1 < ts.length
        · exact (h.front i x t h2 h3 h4).mono fun b hb => List.mem_append_left _ hb
        · exact h.lastRu i x t h2 h3 (by omega) fun b hb => hb
      exact hk.step hg.size hnew
    · simp at hi; omega
  · rcases hl i x t hx ht with ⟨h1, _, _⟩ | ⟨_, rfl, rfl⟩
    · simp at hi; omega
    · exact ⟨rfl, rfl, fun j y r hy => by simp at hy⟩
theorem addLast_get (r : Ru) : ∀ (ts : List Tb) (n : Nat), ts.length = n + 1 → ∀ (i : Nat) (t : Tb), (addLast ts r)[i]? = some t → (i < n ∧ ts[i]? = some t) ∨ (i = n ∧ ∃ t0, ts[n]? = some t0 ∧ t = ⟨t0.nm, t0.pa, t0.rs ++ [r]⟩)
  | [], n, h, i, t, ht => by simp at h
  | [a], n, h, i, t, ht => by
    obtain rfl : n = 0 := by simpa using h.symm
    cases i with
    | zero => exact .inr ⟨rfl, a, rfl, by simpa [addLast] using ht.symm⟩
    | succ i => simp [addLast] at ht
  | a :: b :: ts, n, h, i, t, ht => by
    obtain ⟨m, rfl⟩ : ∃ m, n = m + 1 := ⟨n - 1, by simp at h; omega⟩
    cases i with
    | zero => exact .inl ⟨by omega, by simpa [addLast] using ht⟩
    | succ i =>
      rcases addLast_get r (b :: ts) m (by simp at h ⊢; omega) i t (by simpa [addLast] using ht) with ⟨h1, h2⟩ | ⟨h1, t0, h2, h3⟩
      · exact .inl ⟨by omega, h2⟩
      · exact .inr ⟨by omega, t0, h2, h3⟩
theorem addLast_len (r : Ru) : ∀ ts : List Tb, (addLast ts r).length = ts.length
  | [] => rfl
  | [_] => rfl
  | a :: b :: ts => by rw [addLast, List.length_cons, addLast_len r (b :: ts)]; rfl
theorem flat_set2 : ∀ (xs : List TbV) (n : Nat) (x : TbV) (r : Sl), xs[n]? = some x → (xs.flatMap tbC).set (n * 3 + 2) r.v = (xs.set n ⟨x.nm, x.pa, r⟩).flatMap tbC
  | [], n, x, r, h => by simp at h
  | a :: xs, 0, x, r, h => by
    obtain rfl : a = x := by simpa using h
    simp [tbC]
  | a :: xs, n + 1, x, r, h => by
    have ih := flat_set2 xs n x r (by simpa using h)
    rw [List.flatMap_cons, List.set_cons_succ, List.flatMap_cons, ← ih, List.set_append_right _ _ (by rw [tbC_len]; omega), tbC_len, show (n + 1) * 3 + 2 - 3 = n * 3 + 2 by omega]
/-- A rule more in the last table. -/
theorem TS.rule (h : TS eT eR B w v ts xs rv ys) (n : Nat) (hn : ts.length = n + 1) (g c : Nat) (hv : v = .slice (some ⟨g, 0, none⟩) (n + 1) c) (x : TbV) (hx : xs[n]? = some x) (r : Ru) (y : RuV) (hy : y.b = r.br)
    (hk : Keep (blkL v ++ blkL rv.v) w fun u => RdE atC 34 u y.u.v r.bf ∧ RdE atC 34 u y.t.v r.af) {rv' : Sl} (hown : OwnE eR ruC 3 w' B rv'.v (ys ++ [y])) (hg : w.grownBy w' rv.v.ownBlock) (hat : rv'.v.ownBlock = rv.v.ownBlock ∨ rv'.v.ownBlock = some w.heap.size) :
    TS eT eR B (w'.setCell ⟨g, n * 3 + 2, none⟩ rv'.v) v (addLast ts r) (xs.set n ⟨x.nm, x.pa, rv'⟩) rv' (ys ++ [y]) := by
  have hgb : v.ownBlock = some g := by rw [hv]; rfl
  have hgl := h.own.lt g hgb
  have hrg := h.apart g hgb
  have hrg' : rv'.v.ownBlock ≠ some g := by
    rcases hat with e | e
    · rw [e]; exact hrg
    · rw [e]; intro e2; injection e2 with e2; omega
  have hnew : ∀ b, b < w.heap.size → b ∉ blkL v ++ blkL rv.v → (w'.setCell ⟨g, n * 3 + 2, none⟩ rv'.v).heap[b]? = w.heap[b]? ∧ b ∉ blkL v ++ blkL rv'.v := fun b hb hX => by
    have h1 : b ≠ g := fun e => hX (List.mem_append_left _ (mem_blkL.2 (e ▸ hgb)))
    have h2 : rv.v.ownBlock ≠ some b := fun e => hX (List.mem_append_right _ (mem_blkL.2 e))
    refine ⟨(heap_setCell_other w' _ b _ h1).trans (hg.block b hb (fun e => h2 e.symm)), fun hm => ?_⟩
    rcases List.mem_append.1 hm with hm | hm
    · exact hX (List.mem_append_left _ hm)
    · have h3 := mem_blkL.1 hm
      rcases hat with e | e
      · exact h2 (e ▸ h3)
      · rw [e] at h3; injection h3 with h3; omega
  have hsz : w.heap.size ≤ (w'.setCell ⟨g, n * 3 + 2, none⟩ rv'.v).heap.size := by
    have := hg.size
    simpa [World.setCell] using this
  have hv1 : OwnE eT tbC 3 w' B v xs := own_same h.own fun k hk2 => by
    rw [hgb] at hk2
    injection hk2 with hk2
    subst hk2
    exact hg.block g hgl.2 (fun e => hrg e.symm)
  have hxl : xs.length = n + 1 := h.len.trans hn
  have hset : ∀ (i : Nat) (z : TbV), (xs.set n ⟨x.nm, x.pa, rv'⟩)[i]? = some z → (i ≠ n ∧ xs[i]? = some z) ∨ (i = n ∧ z = ⟨x.nm, x.pa, rv'⟩) := fun i z hz => by
    by_cases hi : i = n
    · subst hi
      rw [List.getElem?_set_self (by omega)] at hz
      exact .inr ⟨rfl, (Option.some.inj hz).symm⟩
    · rw [List.getElem?_set_ne (fun e => hi e.symm)] at hz
      exact .inl ⟨hi, hz⟩
  refine ⟨?_, by rw [List.length_set, addLast_len]; exact h.len, fun i z t hz ht => ?_, fun i z t hz ht hi => ?_, own_setAt (g := g) hown (fun k hk2 e => hrg' (by rw [hk2, e])) _ _, fun k hk2 => by rw [hgb] at hk2; injection hk2 with hk2; exact hk2 ▸ hrg', fun i z t hz ht hi => ?_⟩
  · have h1 := hv1
    unfold OwnE at h1
    rw [hxl] at h1
    have h0 := h1
    rw [hv] at h0
    have h2 := (h0.stored (n * 3 + 2) rv'.v).1
    unfold OwnE
    rw [List.length_set, hxl, ← flat_set2 xs n x rv' hx, hv]
    exact h2
  · rcases hset i z hz with ⟨h1, h2⟩ | ⟨h1, rfl⟩
    · rcases addLast_get r ts n hn i t ht with ⟨_, h4⟩ | ⟨h3, _⟩
      · exact h.ident i z t h2 h4
      · exact absurd h3 h1
    · rcases addLast_get r ts n hn i t ht with ⟨h3, _⟩ | ⟨_, t0, h4, rfl⟩
      · omega
      · exact h.ident n x t0 hx h4
  · rw [addLast_len, hn] at hi
    rcases hset i z hz with ⟨h1, h2⟩ | ⟨h1, _⟩
    · rcases addLast_get r ts n hn i t ht with ⟨h3, h4⟩ | ⟨h3, _⟩
      · exact (h.front i z t h2 h4 (by omega)).step hsz hnew
      · exact absurd h3 h1
    · omega
  · rw [addLast_len, hn] at hi
    have hin : i = n := by omega
    rcases hset i z hz with ⟨h1, _⟩ | ⟨_, rfl⟩
    · exact absurd hin h1
    · rcases addLast_get r ts n hn i t ht with ⟨h3, _⟩ | ⟨_, t0, h4, rfl⟩
      · omega
      · obtain ⟨_, hl, hy0⟩ := h.last n x t0 hx h4 (by omega)
        refine ⟨rfl, by simp [hl], fun j q p hq hp => ?_⟩
        by_cases hj : j < ys.length
        · rw [List.getElem?_append_left hj] at hq
          rw [List.getElem?_append_left (by omega)] at hp
          exact ⟨(hy0 j q p hq hp).1, (hy0 j q p hq hp).2.step hsz hnew⟩
        · have hj2 : j < ys.length + 1 := by have := (List.getElem?_eq_some_iff.1 hq).1; simpa using this
          obtain rfl : j = ys.length := by omega
          rw [List.getElem?_append_right (Nat.le_refl _), Nat.sub_self] at hq
          rw [List.getElem?_append_right (by omega), hl, Nat.sub_self] at hp
          obtain rfl : y = q := by simpa using hq
          obtain rfl : r = p := by simpa using hp
          exact ⟨hy, hk.step hsz hnew⟩
end

end Go.Proofs.YtpboaadjbkaidaaDoor
