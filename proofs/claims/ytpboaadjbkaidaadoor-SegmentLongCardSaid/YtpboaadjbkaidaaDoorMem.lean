
/-
  Slices that read as lists, whatever their elements; appends onto rows of the call's own.
-/
import Derived.Test.YtpboaadjbkaidaaDoorBase
import Derived.Laws.AppendOwnNone
namespace Go.Proofs.YtpboaadjbkaidaaDoor
set_option maxRecDepth 100000
open Go.RowKit

/-- A slice value that reads as the list l; f: an element's cells, m of them. -/
def RdE {α : Type} (f : α → List Value) (m : Nat) (w : World) (v : Value) (l : List α) : Prop :=
  ∃ A c, v = .slice A l.length c ∧ l.length ≤ c ∧ (A = none → c = 0) ∧ (0 < l.length → ∃ b o, A = some ⟨b, o, none⟩ ∧ b < w.heap.size ∧ ∀ (i : Nat) (x : α) (j : Nat) (u : Value), l[i]? = some x → (f x)[j]? = some u →
    w.cell? ⟨b, o + (i * m + j), none⟩ = some u)

section
variable {α : Type} {f : α → List Value} {m : Nat} {w w' : World} {v : Value} {l : List α}
theorem RdE.nil : RdE f m w (.slice none 0 0) ([] : List α) := ⟨none, 0, rfl, by simp, fun _ => rfl, fun h => by simp at h⟩
theorem RdE.keep (h : RdE f m w v l) (hs : w.heap.size ≤ w'.heap.size) (hk : ∀ b, b < w.heap.size → w'.heap[b]? = w.heap[b]?) : RdE f m w' v l := by
  obtain ⟨A, c, hv, hc, hn, h⟩ := h
  refine ⟨A, c, hv, hc, hn, fun h0 => ?_⟩
  obtain ⟨b, o, hA, hb, hx⟩ := h h0
  refine ⟨b, o, hA, by omega, fun i x j u hi hj => ?_⟩
  rw [World.cell?_of_block (w := w) (hk b hb)]
  exact hx i x j u hi hj
theorem RdE.below {B : Nat} (h : RdE f m w v l) (hb : Below B w w') (hB : w.heap.size ≤ B) : RdE f m w' v l :=
  h.keep hb.size (fun b hlt => hb.block b (by omega))
theorem RdE.drewN (h : RdE f m w v l) (n : Nat) : RdE f m (w.drewN n) v l := h
theorem RdE.drew (h : RdE f m w v l) : RdE f m w.drew v l := h
theorem RdE.alloc (h : RdE f m w v l) (o : Obj) : RdE f m (w.alloc o) v l := h.keep (by simp) (fun b hb => Below.heap_alloc w o b hb)
theorem RdE.shape (h : RdE f m w v l) : ∃ A c, v = .slice A l.length c ∧ l.length ≤ c ∧ (A = none → c = 0) := by
  obtain ⟨A, c, hv, hc, hn, _⟩ := h
  exact ⟨A, c, hv, hc, hn⟩
theorem RdE.cells {A : Option Addr} {n c : Nat} (h : RdE f m w (.slice A n c) l) (h0 : 0 < l.length) :
    ∃ b o, A = some ⟨b, o, none⟩ ∧ b < w.heap.size ∧ ∀ (i : Nat) (x : α) (j : Nat) (u : Value), l[i]? = some x → (f x)[j]? = some u → w.cell? ⟨b, o + (i * m + j), none⟩ = some u := by
  obtain ⟨A', c', hv, _, _, h⟩ := h
  injection hv with hA _ _
  subst hA
  exact h h0
theorem RdE.cap {A : Option Addr} {n c : Nat} (h : RdE f m w (.slice A n c) l) : l.length ≤ c := by
  obtain ⟨_, _, hv, hc, _⟩ := h
  injection hv with _ _ h3
  omega
end

/-- A row of the call's own that reads as l. -/
abbrev OwnE {α : Type} (e : TypeId) (f : α → List Value) (m : Nat) (w : World) (B : Nat) (v : Value) (l : List α) : Prop := w.ownsRow B e m v l.length (l.flatMap f)

section
variable {α : Type} {e : TypeId} {f : α → List Value} {m : Nat} {w w' : World} {B : Nat} {v : Value} {l : List α}
theorem OwnE.nil : OwnE e f m w B (.slice none 0 0) ([] : List α) := World.ownsRow_nil _ _ _ _
theorem OwnE.snoc {x : α} (h : w.ownsRow B e m v (l.length + 1) (l.flatMap f ++ f x)) : OwnE e f m w B v (l ++ [x]) := by
  unfold OwnE
  rw [List.length_append, List.flatMap_append]
  simpa using h
theorem own_below {size n : Nat} {xs : List Value} {B' : Nat} (h : w.ownsRow B e size v n xs) (hb : Below B' w w') (hB : w.heap.size ≤ B') : w'.ownsRow B e size v n xs := by
  refine ⟨h.1, ?_⟩
  rcases h.2 with h0 | ⟨g, cap, cur, hv, hbg, hg, rest⟩
  · exact .inl h0
  · refine .inr ⟨g, cap, cur, hv, hbg, ?_, rest⟩
    rw [hb.block g (Nat.lt_of_lt_of_le (Array.getElem?_eq_some_iff.1 hg).1 hB)]
    exact hg
theorem own_base {size n : Nat} {xs : List Value} {B' : Nat} (h : w.ownsRow B e size v n xs) (hB : B' ≤ B) : w.ownsRow B' e size v n xs :=
  ⟨h.1, h.2.imp id (fun ⟨g, cap, cur, a, b, c⟩ => ⟨g, cap, cur, a, Nat.le_trans hB b, c⟩)⟩
theorem OwnE.rd (hm : ∀ x, (f x).length = m) (h : OwnE e f m w B v l) : RdE f m w v l := by
  rcases h.2 with ⟨rfl, h0⟩ | ⟨g, cap, cur, rfl, _, hh, hc, _⟩
  · have : l = [] := List.eq_nil_of_length_eq_zero h0
    subst this
    exact RdE.nil
  · refine ⟨some ⟨g, 0, none⟩, cap, rfl, hc, (fun h => by cases h), fun _ => ⟨g, 0, rfl, (Array.getElem?_eq_some_iff.1 hh).1, fun i x j u hi hj => ?_⟩⟩
    have hil : i < l.length := (List.getElem?_eq_some_iff.1 hi).1
    have hjm : j < m := by rw [← hm x]; exact (List.getElem?_eq_some_iff.1 hj).1
    have hlt : i * m + j < l.length * m := by
      have : (i + 1) * m ≤ l.length * m := Nat.mul_le_mul_right _ hil
      rw [Nat.add_mul] at this
      omega
    rw [Nat.zero_add, h.cellAt (i * m + j) hlt, flat_get f m hm l i j x hi hjm, hj]
end

/-- append(out, xs...): out a row of the call's own, xs a slice that reads as a list (nil, empty or not). -/
theorem wpList_appE {P : Program} {ops : Array Oper} {rest : List Oper} {o : Oper} {a : Act} {Q : Exit → Act → World → Prop} {w : World} {α : Type} (hgd : o.guard = none) (s x : Operand) (t e : TypeId)
    (ho : o.op = .call { callee := .builtin .append, args := #[s, x], argTypes := #[t, t] })
    (ht : P.underlying t = some (.slice e)) (z : Value) (f : α → List Value) (size bytes : Nat) (hinfo : (P.info? e).map (fun i => (i.zero, i.size, i.bytes)) = some (some z, size, bytes)) (hzs : z.cells.size = size) (hsz : 0 < size)
    (hm : ∀ x, (f x).length = size) (h1 : ∀ x, ∀ u ∈ f x, u.oneCell' = true)
    (base : Nat) (v : Value) (l : List α) (hs : a.eval s = v) (hown : w.ownsRow base e size v l.length (l.flatMap f))
    (v2 : Value) (l2 : List α) (hx : a.eval x = v2) (hrd : RdE f size w v2 l2)
    (hbytes : (l.length + l2.length) * bytes ≤ 140737488355328) (hb1 : 1 ≤ bytes) (hbase : base ≤ w.heap.size)
    (h : ∀ v' w', w'.ownsRow base e size v' (l ++ l2).length ((l ++ l2).flatMap f) → (∀ B W, B ≤ base → Below B W w → Below B W w') → w.grownBy w' v.ownBlock → wpList P ops Q rest (a.put o.dst v') w') : wpList P ops Q (o :: rest) a w := by
  obtain ⟨i, hi, hz, hsize, hby⟩ := info_parts hinfo
  have h2 : l.length + l2.length ≤ 140737488355328 := Nat.le_trans (Nat.le_mul_of_pos_right _ hb1) hbytes
  obtain ⟨A, c, hv2, hc, hn, hcell⟩ := hrd
  rcases A with _ | ad
  · have hc0 := hn rfl
    have hl2 : l2 = [] := List.eq_nil_of_length_eq_zero (by omega)
    subst hl2 hc0
    refine wpList_append_own_none hgd s x t ho base e i size ht hi v l.length _ hs hown (by rw [hx, hv2]; rfl) (h v w (by simpa using hown) (fun _ _ _ hB => hB) (World.grownBy.refl w _))
  · refine wpList_append_own w hgd s x t ho base e i z size bytes ht hi hz hsize hby hzs hsz v l.length _ hs hown ad l2.length c (l2.flatMap f) (by rw [hx, hv2]) (flat_length f size hm l2) (fun j u hj => ?_) (fun u hu => ?_) (by unfold maxLen; omega) hbytes hbase ?_
    · have hjl : j < l2.length * size := by rw [← flat_length f size hm l2]; exact (List.getElem?_eq_some_iff.1 hj).1
      have hl0 : 0 < l2.length := by
        rcases Nat.eq_zero_or_pos l2.length with h0 | h0
        · rw [h0] at hjl; omega
        · exact h0
      obtain ⟨b, o', hA, _, hcc⟩ := hcell hl0
      injection hA with hA
      subst hA
      have hq : j / size < l2.length := Nat.div_lt_of_lt_mul (by rw [Nat.mul_comm]; exact hjl)
      have hr : j % size < size := Nat.mod_lt _ hsz
      have hx' : l2[j / size]? = some l2[j / size] := List.getElem?_eq_getElem hq
      have hj2 : j / size * size + j % size = j := by rw [Nat.mul_comm]; exact Nat.div_add_mod j size
      have hg := flat_get f size hm l2 (j / size) (j % size) _ hx' hr
      rw [hj2, hj] at hg
      have := hcc (j / size) _ (j % size) u hx' hg.symm
      rw [hj2] at this
      rw [Addr.add_lit]
      exact this
    · obtain ⟨x, hx, hu⟩ := List.mem_flatMap.1 hu
      exact h1 x u hu
    · intro v' w' hown' hg _
      refine h v' w' ?_ (fun B W hB hW => hW.grown hg (Nat.le_trans hB hbase) (fun k hk => Nat.le_trans hB (hown.lt k hk).1)) hg
      rw [List.length_append, List.flatMap_append]
      exact hown'

/-- A call that returns a row of its own that reads as l. -/
def RetOwn {α : Type} (t : TypeId) (f : α → List Value) (m : Nat) (w : World) (l : List α) (e : Ending) (w' : World) : Prop := ∃ v, e = .returned v ∧ OwnE t f m w' w.heap.size v l ∧ Below w.heap.size w w'

theorem cells_at (w : World) (g : Nat) (hg : w.heap.size = g) (xs : List Value) (t : TypeId) : ∀ j u, xs[j]? = some u → (w.alloc (.cells xs.toArray t)).cell? ((⟨g, 0, none⟩ : Addr).add j) = some u := by
  subst hg
  exact cells_new w xs t

end Go.Proofs.YtpboaadjbkaidaaDoor
