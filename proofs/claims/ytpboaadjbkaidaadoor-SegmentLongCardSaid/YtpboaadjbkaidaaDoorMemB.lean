
/-
  Appends that tell where the new slice lies; parts of slices; rows that are kept.
-/
import Derived.Test.YtpboaadjbkaidaaDoorMem
import Derived.Maps.AppendAt
import Derived.Deep.AppendLies
import Derived.Deep.RegionLaw
namespace Go.Proofs.YtpboaadjbkaidaaDoor
set_option maxRecDepth 100000
open Go.RowKit

theorem run_appE {P : Program} {w : World} {α : Type} (t ty e : TypeId) (ht : P.underlying t = some (.slice e)) (z : Value) (f : α → List Value) (size bytes : Nat)
    (hinfo : (P.info? e).map (fun i => (i.zero, i.size, i.bytes)) = some (some z, size, bytes)) (hzs : z.cells.size = size) (hsz : 0 < size) (hm : ∀ x, (f x).length = size) (h1 : ∀ x, ∀ u ∈ f x, u.oneCell' = true)
    (base : Nat) (v : Value) (l : List α) (hown : w.ownsRow base e size v l.length (l.flatMap f)) (v2 : Value) (l2 : List α) (hrd : RdE f size w v2 l2)
    (hbytes : (l.length + l2.length) * bytes ≤ 140737488355328) (hb1 : 1 ≤ bytes) (hbase : base ≤ w.heap.size) :
    ∃ v' w', (Builtin.append_ #[t, t] ty #[v, v2]).run P w = .ok v' w' ∧ w'.ownsRow base e size v' (l ++ l2).length ((l ++ l2).flatMap f) ∧ (∀ B W, B ≤ base → Below B W w → Below B W w') ∧ w.grownBy w' v.ownBlock ∧
      (v'.ownBlock = v.ownBlock ∨ v'.ownBlock = some w.heap.size) := by
  obtain ⟨i, hi, hz, hsize, hby⟩ := info_parts hinfo
  have h2 : l.length + l2.length ≤ 140737488355328 := Nat.le_trans (Nat.le_mul_of_pos_right _ hb1) hbytes
  obtain ⟨A, c, hv2, hc, hn, hcell⟩ := hrd
  subst hv2
  rcases A with _ | ad
  · have hc0 := hn rfl
    have hl2 : l2 = [] := List.eq_nil_of_length_eq_zero (by omega)
    subst hl2 hc0
    exact ⟨v, w, run_append_owned_none (P := P) (w := w) base t ty e i size ht hi v l.length _ hown, by simpa using hown, fun _ _ _ hB => hB, World.grownBy.refl w _, .inl rfl⟩
  · obtain ⟨v', w', hr, hown', hg, _, hat⟩ := run_append_own_at (P := P) w base t ty e i z size bytes ht hi hz hsize hby hzs hsz v l.length _ hown ad l2.length c (l2.flatMap f) (flat_length f size hm l2) (fun j u hj => by
        have hjl : j < l2.length * size := by rw [← flat_length f size hm l2]; exact (List.getElem?_eq_some_iff.1 hj).1
        have hl0 : 0 < l2.length := by
          rcases Nat.eq_zero_or_pos l2.length with h0 | h0
          · rw [h0] at hjl; omega
          · exact h0
        obtain ⟨b, o', hA, _, hcc⟩ := hcell hl0
        injection hA with hA
        subst hA
        have hq : j / size < l2.length := Nat.div_lt_of_lt_mul (by rw [Nat.mul_comm]; exact hjl)
        have hr : j % size < size := Nat.mod_lt _ hsz
        have hx' : l2[j / size]? = some l2[j / size] := List.getElem?_eq_getElem hq
        have hj2 : j / size * size + j % size = j := by rw [Nat.mul_comm]; exact Nat.div_add_mod j size
        have hg := flat_get f size hm l2 (j / size) (j % size) _ hx' hr
        rw [hj2, hj] at hg
        have := hcc (j / size) _ (j % size) u hx' hg.symm
        rw [hj2] at this
        rw [Addr.add_lit]
        exact this) (fun u hu => by
        obtain ⟨x, hx, hu⟩ := List.mem_flatMap.1 hu
        exact h1 x u hu) (by unfold maxLen; omega) hbytes hbase
    refine ⟨v', w', hr, ?_, (fun B W hB hW => hW.grown hg (Nat.le_trans hB hbase) (fun k hk => Nat.le_trans hB (hown.lt k hk).1)), hg, hat⟩
    rw [List.length_append, List.flatMap_append]
    exact hown'

theorem wp_appE {P : Program} {o : Oper} {a : Act} {K : Act → World → Prop} {Q : Exit → Act → World → Prop} {w : World} {α : Type} (s x : Operand) (t e : TypeId)
    (ho : o.op = .call { callee := .builtin .append, args := #[s, x], argTypes := #[t, t] })
    (ht : P.underlying t = some (.slice e)) (z : Value) (f : α → List Value) (size bytes : Nat) (hinfo : (P.info? e).map (fun i => (i.zero, i.size, i.bytes)) = some (some z, size, bytes)) (hzs : z.cells.size = size) (hsz : 0 < size)
    (hm : ∀ x, (f x).length = size) (h1 : ∀ x, ∀ u ∈ f x, u.oneCell' = true)
    (base : Nat) (v : Value) (l : List α) (hs : a.eval s = v) (hown : w.ownsRow base e size v l.length (l.flatMap f))
    (v2 : Value) (l2 : List α) (hx : a.eval x = v2) (hrd : RdE f size w v2 l2)
    (hbytes : (l.length + l2.length) * bytes ≤ 140737488355328) (hb1 : 1 ≤ bytes) (hbase : base ≤ w.heap.size)
    (h : ∀ v' w', w'.ownsRow base e size v' (l ++ l2).length ((l ++ l2).flatMap f) → (∀ B W, B ≤ base → Below B W w → Below B W w') → w.grownBy w' v.ownBlock → (v'.ownBlock = v.ownBlock ∨ v'.ownBlock = some w.heap.size) → K (a.put o.dst v') w') : o.wp P a w K Q := by
  obtain ⟨v', w', hr, h2, h3, h4, h5⟩ := run_appE (P := P) t o.type e ht z f size bytes hinfo hzs hsz hm h1 base v l hown v2 l2 hrd hbytes hb1 hbase
  unfold Oper.wp execOp
  simp only [ho, resolve, invoke, builtin, Sem.run_bind, Sem.run_pure, Result.andThen_ok, List.map_toArray, List.map_cons, List.map_nil, hs, hx, hr]
  exact h v' w' h2 h3 h4 h5

/-- append(out, xs...) at the list of a plain region's operations; also where the new slice lies. -/
theorem wpList_appAt {P : Program} {ops : Array Oper} {rest : List Oper} {o : Oper} {a : Act} {Q : Exit → Act → World → Prop} {w : World} {α : Type} (hgd : o.guard = none) (s x : Operand) (t e : TypeId)
    (ho : o.op = .call { callee := .builtin .append, args := #[s, x], argTypes := #[t, t] })
    (ht : P.underlying t = some (.slice e)) (z : Value) (f : α → List Value) (size bytes : Nat) (hinfo : (P.info? e).map (fun i => (i.zero, i.size, i.bytes)) = some (some z, size, bytes)) (hzs : z.cells.size = size) (hsz : 0 < size)
    (hm : ∀ x, (f x).length = size) (h1 : ∀ x, ∀ u ∈ f x, u.oneCell' = true)
    (base : Nat) (v : Value) (l : List α) (hs : a.eval s = v) (hown : w.ownsRow base e size v l.length (l.flatMap f))
    (v2 : Value) (l2 : List α) (hx : a.eval x = v2) (hrd : RdE f size w v2 l2)
    (hbytes : (l.length + l2.length) * bytes ≤ 140737488355328) (hb1 : 1 ≤ bytes) (hbase : base ≤ w.heap.size)
    (h : ∀ v' w', w'.ownsRow base e size v' (l ++ l2).length ((l ++ l2).flatMap f) → (∀ B W, B ≤ base → Below B W w → Below B W w') → w.grownBy w' v.ownBlock → (v'.ownBlock = v.ownBlock ∨ v'.ownBlock = some w.heap.size) → wpList P ops Q rest (a.put o.dst v') w') : wpList P ops Q (o :: rest) a w :=
  wpList_plain hgd fun _ hK => wp_appE s x t e ho ht z f size bytes hinfo hzs hsz hm h1 base v l hs hown v2 l2 hx hrd hbytes hb1 hbase fun v' w' h2 h3 h4 h5 => hK _ _ (h v' w' h2 h3 h4 h5)

/-- The same at a step of a region that draws its order. -/
theorem step_appE {P : Program} {ops : Array Oper} {o : Oper} {a : Act} {K : Act → World → Prop} {Q : Exit → Act → World → Prop} {E : Prop} {w : World} {α : Type} (hgd : o.guard = none) (s x : Operand) (t e : TypeId)
    (ho : o.op = .call { callee := .builtin .append, args := #[s, x], argTypes := #[t, t] })
    (ht : P.underlying t = some (.slice e)) (z : Value) (f : α → List Value) (size bytes : Nat) (hinfo : (P.info? e).map (fun i => (i.zero, i.size, i.bytes)) = some (some z, size, bytes)) (hzs : z.cells.size = size) (hsz : 0 < size)
    (hm : ∀ x, (f x).length = size) (h1 : ∀ x, ∀ u ∈ f x, u.oneCell' = true)
    (base : Nat) (v : Value) (l : List α) (hs : a.eval s = v) (hown : w.ownsRow base e size v l.length (l.flatMap f))
    (v2 : Value) (l2 : List α) (hx : a.eval x = v2) (hrd : RdE f size w v2 l2)
    (hbytes : (l.length + l2.length) * bytes ≤ 140737488355328) (hb1 : 1 ≤ bytes) (hbase : base ≤ w.heap.size)
    (h : ∀ v' w', w'.ownsRow base e size v' (l ++ l2).length ((l ++ l2).flatMap f) → (∀ B W, B ≤ base → Below B W w → Below B W w') → w.grownBy w' v.ownBlock → (v'.ownBlock = v.ownBlock ∨ v'.ownBlock = some w.heap.size) → K (a.put o.dst v') w') :
    if Region.wanted o (yielded ops a.tmps) = true then Oper.wp P o a w K Q else E := by
  have hw : Region.wanted o (yielded ops a.tmps) = true := by simp [Region.wanted, hgd]
  rw [if_pos hw]
  exact wp_appE s x t e ho ht z f size bytes hinfo hzs hsz hm h1 base v l hs hown v2 l2 hx hrd hbytes hb1 hbase h

section
variable {α : Type} {e : TypeId} {f : α → List Value} {m : Nat} {w w' : World} {B : Nat} {v : Value} {l : List α}
/-- A row of the call's own whose block reads as it did. -/
theorem own_same {size n : Nat} {xs : List Value} (h : w.ownsRow B e size v n xs) (hk : ∀ k, v.ownBlock = some k → w'.heap[k]? = w.heap[k]?) : w'.ownsRow B e size v n xs := by
  refine ⟨h.1, ?_⟩
  rcases h.2 with h0 | ⟨g, cap, cur, hv, hbg, hg, rest⟩
  · exact .inl h0
  · refine .inr ⟨g, cap, cur, hv, hbg, ?_, rest⟩
    rw [hk g (by rw [hv]; rfl)]
    exact hg
/-- The head of a slice. -/
theorem RdE.take {A : Option Addr} {n c : Nat} (h : RdE f m w (.slice A n c) l) (k : Nat) (hk : k ≤ l.length) : RdE f m w (.slice A k c) (l.take k) := by
  obtain ⟨A', c', hv, hc, hn, hx⟩ := h
  injection hv with h1 h2 h3
  subst h1 h2 h3
  have hlen : (l.take k).length = k := by simp; omega
  refine ⟨A, c, by rw [hlen], by omega, hn, fun h0 => ?_⟩
  obtain ⟨b, o, hA, hb, hcc⟩ := hx (by omega)
  refine ⟨b, o, hA, hb, fun i x j u hi hj => hcc i x j u ?_ hj⟩
  have hik : i < k := by rw [← hlen]; exact (List.getElem?_eq_some_iff.1 hi).1
  rw [List.getElem?_take_of_lt hik] at hi
  exact hi
/-- The rest of a slice: its address, if anything is left behind it. -/
theorem RdE.drop {b o n c : Nat} (h : RdE f m w (.slice (some ⟨b, o, none⟩) n c) l) (k : Nat) (hk : k ≤ l.length) (A : Option Addr) (hA : k < l.length → A = some ⟨b, o + k * m, none⟩) (hA2 : A ≠ none) :
    RdE f m w (.slice A (n - k) (c - k)) (l.drop k) := by
  obtain ⟨A', c', hv, hc, hn, hx⟩ := h
  injection hv with h1 h2 h3
  subst h1 h2 h3
  refine ⟨A, c - k, by rw [List.length_drop], by rw [List.length_drop]; omega, fun e => absurd e hA2, fun h0 => ?_⟩
  rw [List.length_drop] at h0
  obtain ⟨b', o', hA', hb, hcc⟩ := hx (by omega)
  injection hA' with hA'
  injection hA' with e1 e2 _
  subst e1 e2
  refine ⟨b, o + k * m, hA (by omega), hb, fun i x j u hi hj => ?_⟩
  rw [List.getElem?_drop] at hi
  have := hcc (k + i) x j u hi hj
  rw [show o + ((k + i) * m + j) = o + k * m + (i * m + j) by rw [Nat.add_mul]; omega] at this
  exact this
end

end Go.Proofs.YtpboaadjbkaidaaDoor
