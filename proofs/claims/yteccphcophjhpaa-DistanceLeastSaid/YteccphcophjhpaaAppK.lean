
/-
  An append of one element onto a row of the call's own, the old slice kept in sight; an append onto a full slice.
-/
import Derived.Test.YteccphcophjhpaaMemB
import Derived.ArgAppend
import Derived.Laws.OwnMore
namespace Go.Proofs.Yteccphcophjhpaa
open Go.RowKit

theorem setCells_block (b : Nat) (k : Nat) (hk : k ≠ b) : ∀ (vs : List Value) (o : Nat) (w : World), (w.setCells b o vs).heap[k]? = w.heap[k]?
  | [], _, _ => rfl
  | v :: vs, o, w => by
    show ((w.setCell ⟨b, o, none⟩ v).setCells b (o + 1) vs).heap[k]? = _
    rw [setCells_block b k hk vs (o + 1) _]
    exact Below.heap_setCell _ _ _ _ (by show k ≠ b; exact hk)
theorem setCells_size (b : Nat) : ∀ (vs : List Value) (o : Nat) (w : World), (w.setCells b o vs).heap.size = w.heap.size
  | [], _, _ => rfl
  | v :: vs, o, w => by
    show ((w.setCell ⟨b, o, none⟩ v).setCells b (o + 1) vs).heap.size = _
    rw [setCells_size b vs (o + 1) _]
    simp [World.setCell]
theorem setCells_rest (b : Nat) : ∀ (vs : List Value) (o : Nat) (w : World), (w.setCells b o vs).os = w.os ∧ (w.setCells b o vs).tape = w.tape ∧ (w.setCells b o vs).output = w.output
  | [], _, _ => ⟨rfl, rfl, rfl⟩
  | v :: vs, o, w => setCells_rest b vs (o + 1) (w.setCell ⟨b, o, none⟩ v)
theorem below_setCells {B : Nat} {W w : World} (h : Below B W w) (b o : Nat) (vs : List Value) (hb : B ≤ b) : Below B W (w.setCells b o vs) := by
  obtain ⟨r1, r2, r3⟩ := setCells_rest b vs o w
  exact ⟨r1.trans h.os, r2.trans h.tape, r3.trans h.output, by rw [setCells_size]; exact h.size, fun k hk => (setCells_block b k (by omega) vs o w).trans (h.block k hk)⟩
theorem below_of_grown' {a b : World} (h : a.grownBy b none) : Below a.heap.size a b := ⟨h.os, h.tape, h.output, h.size, fun k hk => h.block k hk (by simp)⟩

theorem wpList_appK {P : Program} {ops : Array Oper} {rest : List Oper} {o : Oper} {a : Act} {Q : Exit → Act → World → Prop} {w : World} {α : Type} (hgd : o.guard = none) (s x : Operand) (t e : TypeId)
    (ho : o.op = .call { callee := .builtin .append, args := #[s, x], argTypes := #[t, t] })
    (ht : P.underlying t = some (.slice e)) (z : Value) (f : α → List Value) (size bytes : Nat) (hinfo : (P.info? e).map (fun i => (i.zero, i.size, i.bytes)) = some (some z, size, bytes)) (hzs : z.cells.size = size) (hsz : 0 < size)
    (hm : ∀ x, (f x).length = size) (h1 : ∀ x, ∀ u ∈ f x, u.oneCell' = true)
    (base : Nat) (v : Value) (l : List α) (hs : a.eval s = v) (hown : w.ownsRow base e size v l.length (l.flatMap f)) (y : α)
    (ad : Addr) (c : Nat) (hx : a.eval x = .slice (some ad) 1 c) (hnews : ∀ j u, (f y)[j]? = some u → w.cell? (ad.add j) = some u)
    (hbytes : (l.length + 1) * bytes ≤ 140737488355328) (hb1 : 1 ≤ bytes)
    (h : ∀ v' w', RdE f size w' v' (l ++ [y]) → RdE f size w' v l → (∀ B W, B ≤ base → B ≤ w.heap.size → Below B W w → Below B W w') → wpList P ops Q rest (a.put o.dst v') w') : wpList P ops Q (o :: rest) a w := by
  obtain ⟨i, hi, hz, hsize, hby⟩ := info_parts hinfo
  have h2 : l.length + 1 ≤ 140737488355328 := Nat.le_trans (Nat.le_mul_of_pos_right _ hb1) hbytes
  have hfl := flat_length f size hm l
  rcases hown.2 with ⟨hv0, h0⟩ | ⟨g, cap, cur, hv0, hb, hh, hc, hcm, hcs, htk⟩
  · have hl : l = [] := List.eq_nil_of_length_eq_zero h0
    subst hl hv0
    refine wpList_append_grows w hgd s x t ho e i z size bytes ht hi hz hsize hby hzs hsz none 0 0 [] hs (fun _ => ⟨rfl, rfl⟩) (by simp) (fun b hb => (by cases hb)) ad 1 c (f y) hx (by rw [hm, Nat.one_mul]) hnews (h1 y) (by omega) (by unfold maxLen; omega) hbytes fun v' w' hown' hg => ?_
    refine h v' w' ?_ RdE.nil (fun B W _ hBw hW => hW.grown hg hBw (fun k hk => by cases hk))
    have : w'.ownsRow w.heap.size e size v' ([y] : List α).length (([y] : List α).flatMap f) := by simpa using hown'
    exact OwnE.rd hm this
  · subst hv0
    have hcell : ∀ j u, (l.flatMap f)[j]? = some u → w.cell? ⟨g, 0 + j, none⟩ = some u := fun j u hj => by
      have hjl := (List.getElem?_eq_some_iff.1 hj).1
      rw [hfl] at hjl
      rw [Nat.zero_add, hown.cellAt j hjl, hj]
    have hg := (Array.getElem?_eq_some_iff.1 hh).1
    have hspare : l.length + 1 ≤ cap → ∀ j, j < (f y).length → (w.cell? ⟨g, 0 + l.length * size + j, none⟩).isSome = true ∧ w.frozen? ⟨g, 0 + l.length * size + j, none⟩ = false := fun hr j hj => by
      rw [hm] at hj
      refine ⟨?_, hown.frozenAt _⟩
      rw [cell_of_row _ _ _ _ _ _ hh]
      have : 0 + l.length * size + j < cur.size := by
        rw [hcs]
        have : (l.length + 1) * size ≤ cap * size := Nat.mul_le_mul_right _ hr
        rw [Nat.add_mul] at this
        omega
      rw [Array.getElem?_eq_getElem this]
      rfl
    refine wpList_append_arg w hgd s x t ho e i z size bytes ht hi hz hsize hby hzs hsz g 0 l.length cap (l.flatMap f) hs hfl hcell ad 1 c (f y) hx (by rw [hm, Nat.one_mul]) hnews (h1 y) hspare (by unfold maxLen; omega) hbytes (fun hr => ?_) (fun hr v' w' hown' hg' => ?_)
    · have hsame : ∀ i' (x' : α) j u, l[i']? = some x' → (f x')[j]? = some u → (w.setCells g (0 + l.length * size) (f y)).cell? ⟨g, 0 + (i' * size + j), none⟩ = some u := fun i' x' j u hi' hj => by
        have hil := (List.getElem?_eq_some_iff.1 hi').1
        have hjm : j < size := by rw [← hm x']; exact (List.getElem?_eq_some_iff.1 hj).1
        have hlt : i' * size + j < l.length * size := by
          have : (i' + 1) * size ≤ l.length * size := Nat.mul_le_mul_right _ hil
          rw [Nat.add_mul] at this
          omega
        rw [World.cell?_setCells_out g (f y) _ w _ (fun _ _ => .inl (by show 0 + (i' * size + j) < 0 + l.length * size; omega))]
        exact hcell _ u (by rw [flat_get f size hm l i' j x' hi' hjm, hj])
      refine h _ _ ⟨some ⟨g, 0, none⟩, cap, by rw [List.length_append]; rfl, by rw [List.length_append]; exact hr, (fun e => by cases e), fun _ => ⟨g, 0, rfl, by rw [setCells_size]; exact hg, fun i' x' j u hi' hj => ?_⟩⟩ ⟨some ⟨g, 0, none⟩, cap, rfl, hc, (fun e => by cases e), fun _ => ⟨g, 0, rfl, by rw [setCells_size]; exact hg, hsame⟩⟩ (fun B W hB _ hW => below_setCells hW g _ _ (by omega))
      by_cases hil : i' < l.length
      · rw [List.getElem?_append_left hil] at hi'
        exact hsame i' x' j u hi' hj
      · have hi2 : i' = l.length := by
          have := (List.getElem?_eq_some_iff.1 hi').1
          rw [List.length_append] at this
          simp at this
          omega
        subst hi2
        have hxy : x' = y := by simpa using hi'.symm
        subst hxy
        have hjl := (List.getElem?_eq_some_iff.1 hj).1
        have hin := World.cell?_setCells_in g (f x') (0 + l.length * size) w (fun j hj => (hspare hr j hj).1) j hjl
        rw [← Nat.add_assoc, hin]
        rw [List.getElem?_eq_getElem hjl] at hj
        exact hj
    · refine h v' w' ?_ (RdE.below (OwnE.rd hm hown) (below_of_grown' hg') (Nat.le_refl _)) (fun B W _ hBw hW => hW.grown hg' hBw (fun k hk => by cases hk))
      have e2 : w'.ownsRow w.heap.size e size v' (l ++ [y]).length ((l ++ [y]).flatMap f) := by
        rw [List.length_append, List.flatMap_append]
        simpa using hown'
      exact OwnE.rd hm e2

/-- append(xs, y), xs a slice without room. -/
theorem wpList_appF {P : Program} {ops : Array Oper} {rest : List Oper} {o : Oper} {a : Act} {Q : Exit → Act → World → Prop} {w : World} {α : Type} (hgd : o.guard = none) (s x : Operand) (t e : TypeId)
    (ho : o.op = .call { callee := .builtin .append, args := #[s, x], argTypes := #[t, t] })
    (ht : P.underlying t = some (.slice e)) (z : Value) (f : α → List Value) (size bytes : Nat) (hinfo : (P.info? e).map (fun i => (i.zero, i.size, i.bytes)) = some (some z, size, bytes)) (hzs : z.cells.size = size) (hsz : 0 < size)
    (hm : ∀ x, (f x).length = size) (h1 : ∀ x, ∀ u ∈ f x, u.oneCell' = true)
    (A : Option Addr) (l : List α) (hs : a.eval s = .slice A l.length l.length) (hrd : RdE f size w (.slice A l.length l.length) l) (y : α)
    (ad : Addr) (c : Nat) (hx : a.eval x = .slice (some ad) 1 c) (hnews : ∀ j u, (f y)[j]? = some u → w.cell? (ad.add j) = some u)
    (hbytes : (l.length + 1) * bytes ≤ 140737488355328) (hb1 : 1 ≤ bytes)
    (h : ∀ v' w', RdE f size w' v' (l ++ [y]) → Below w.heap.size w w' → wpList P ops Q rest (a.put o.dst v') w') : wpList P ops Q (o :: rest) a w := by
  obtain ⟨i, hi, hz, hsize, hby⟩ := info_parts hinfo
  have h2 : l.length + 1 ≤ 140737488355328 := Nat.le_trans (Nat.le_mul_of_pos_right _ hb1) hbytes
  have hfl := flat_length f size hm l
  obtain ⟨A', c', hv, hc, hn, hcell⟩ := hrd
  injection hv with e1 e2 e3
  subst e1 e3
  refine wpList_append_grows w hgd s x t ho e i z size bytes ht hi hz hsize hby hzs hsz A l.length l.length (l.flatMap f) hs (fun e => ⟨hn e, hn e⟩) hfl (fun b hb j u hj => ?_) ad 1 c (f y) hx (by rw [hm, Nat.one_mul]) hnews (h1 y) (by omega) (by unfold maxLen; omega) hbytes fun v' w' hown' hg => ?_
  · have hjl := (List.getElem?_eq_some_iff.1 hj).1
    rw [hfl] at hjl
    have hl0 : 0 < l.length := by
      rcases Nat.eq_zero_or_pos l.length with h0 | h0
      · rw [h0] at hjl; omega
      · exact h0
    obtain ⟨b', o', hA, _, hcc⟩ := hcell hl0
    rw [hb] at hA
    injection hA with hA
    subst hA
    have hq : j / size < l.length := Nat.div_lt_of_lt_mul (by rw [Nat.mul_comm]; exact hjl)
    have hr : j % size < size := Nat.mod_lt _ hsz
    have hx' : l[j / size]? = some l[j / size] := List.getElem?_eq_getElem hq
    have hj2 : j / size * size + j % size = j := by rw [Nat.mul_comm]; exact Nat.div_add_mod j size
    have hgt := flat_get f size hm l (j / size) (j % size) _ hx' hr
    rw [hj2, hj] at hgt
    have := hcc (j / size) _ (j % size) u hx' hgt.symm
    rw [hj2] at this
    rw [Addr.add_lit]
    exact this
  · refine h v' w' ?_ (below_of_grown' hg)
    have e2 : w'.ownsRow w.heap.size e size v' (l ++ [y]).length ((l ++ [y]).flatMap f) := by
      rw [List.length_append, List.flatMap_append]
      simpa using hown'
    exact OwnE.rd hm e2

end Go.Proofs.Yteccphcophjhpaa
