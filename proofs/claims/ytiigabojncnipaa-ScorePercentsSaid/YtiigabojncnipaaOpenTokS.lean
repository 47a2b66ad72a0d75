
/-
  How the statements' lists of tokens and items are opened where the form's own reach is wanted: the bytes of each text.
-/
import Derived.Test.YtiigabojncnipaaOpenTok
import Derived.SizedLaws
namespace Go.Proofs.Ytiigabojncnipaa
open Go.ChangeShapes Go.WideShapes Go.ChangeAt Go.RowKit Go.Deep Go.Joins

/-- A token of an argument, its text within the form's reach. -/
def TkInS (x : Tk) : Prop := TkIn x ∧ x.t.size ≤ 140737488351232

theorem weightsAll_mem {H : Type} {P : Program} {e : TypeId} {d : DataW H} {n : Nat} : ∀ {l : List (DataW H)}, d ∈ l → n ∈ d.weights P e → n ∈ DataW.weightsAll P e l
  | [], h, _ => by simp at h
  | x :: l, h, hn => by
    rw [DataW.weightsAll, List.mem_append]
    rcases List.mem_cons.1 h with rfl | h
    · exact .inl hn
    · exact .inr (weightsAll_mem h hn)

section
variable {H : Type} {enc : TypeId × Value → H} {P : Program} {w : World} {base : Nat} {spare : Nat → Bool} {held : Bool}

theorem open_rowsS {α : Type} (f : α → List Value) (m : Nat) (good : α → Prop) {r : Reach} {b0 : Nat} {t e : TypeId} {v : Value} {d : DataW H} {p : List MemPlace} (ht : P.underlying t = some (.slice e)) (hC : P.cellsOf e = m) (hm : ∀ x, (f x).length = m) (hm0 : 0 < m)
    (hel : ∀ n cs x, DataW.trod enc P w base spare held n e cs = some x → (∀ q ∈ x.1.weights P e, q ≤ reachBytes) → ∃ y : α, cs = f y ∧ good y) (hv : Value.okWide P w r b0 t v) (h : DataW.Trod enc P w base spare held t v d p) (hw : ∀ q ∈ d.weights P t, q ≤ reachBytes) :
    ∃ (A : Option Addr) (n c : Nat) (l : List α), v = .slice A n c ∧ n = l.length ∧ l.length ≤ maxLen ∧ RdE f m w (.slice A n c) l ∧ ∀ x ∈ l, good x := by
  obtain ⟨A, n, c, rfl⟩ := okWide_slice ht hv
  obtain ⟨fuel, hf⟩ := h
  rcases open_slice ht hf with ⟨h0, _⟩ | ⟨a, len, cap, k, n', D, Pl, hcs, _, hl, hmx, hk, hdx, hi⟩
  · simp [Value.cells] at h0
    obtain ⟨rfl, rfl, rfl⟩ := h0
    exact ⟨none, 0, 0, [], rfl, rfl, by simp, RdE.nil, by simp⟩
  · simp [Value.cells] at hcs
    obtain ⟨rfl, rfl, rfl⟩ := hcs
    injection hdx with hd _
    subst hd
    have hlk : n ≤ k := by rw [hk]; split <;> omega
    have hwt : ∀ i, i < n → ∀ q ∈ (D i).weights P e, q ≤ reachBytes := by
      intro i hin q hq
      refine hw q ?_
      rw [DataW.weights, ht]
      refine List.mem_cons_of_mem _ (List.mem_append_left _ (weightsAll_mem (d := D i) ?_ hq))
      exact List.mem_map.2 ⟨i, List.mem_range.2 hin, rfl⟩
    have hall : ∀ i : Fin n, ∃ y : α, good y ∧ ∀ (j : Nat) (u : Value), (f y)[j]? = some u → w.cell? (a.add (i.val * m + j)) = some u := by
      intro i
      obtain ⟨cs', hc, htr⟩ := hi i.val (by omega)
      obtain ⟨y, rfl, hy⟩ := hel _ _ _ htr (hwt i.val i.isLt)
      refine ⟨y, hy, fun j u hju => ?_⟩
      obtain ⟨_, hcl, hat⟩ := World.cells?_some hc
      have hjm : j < m := by rw [← hm y]; exact (List.getElem?_eq_some_iff.1 hju).1
      have := hat j (by rw [hC]; exact hjm)
      rw [hju, hC, Go.Deep.add_add] at this
      exact this
    refine ⟨some a, n, c, List.ofFn fun i => Classical.choose (hall i), rfl, by simp, by simp; omega, ?_, ?_⟩
    · refine ⟨some a, c, by simp, by simp; omega, (fun h => by cases h), fun h0 => ?_⟩
      have hn0 : 0 < n := by simpa using h0
      have hc0 := Classical.choose_spec (hall ⟨0, hn0⟩)
      have h00 : (f (Classical.choose (hall ⟨0, hn0⟩)))[0]? = some _ := List.getElem?_eq_getElem (by rw [hm]; omega)
      have hcell0 := hc0.2 0 _ h00
      obtain ⟨b, o, sp⟩ := a
      have hsp : sp = none := by simpa [Addr.add] using World.cell?_spot hcell0
      subst hsp
      have hbl : b < w.heap.size := by
        unfold World.cell? at hcell0
        split at hcell0
        · rename_i hh
          have := (Array.getElem?_eq_some_iff.1 hh).1
          rw [Addr.add_lit] at this
          exact this
        · cases hcell0
      refine ⟨b, o, rfl, hbl, fun i x j u hx hu => ?_⟩
      rw [List.getElem?_ofFn] at hx
      split at hx
      · rename_i hin
        injection hx with hx
        subst hx
        have := (Classical.choose_spec (hall ⟨i, hin⟩)).2 j u hu
        rw [Addr.add_lit] at this
        exact this
      · cases hx
    · intro x hx
      obtain ⟨i, rfl⟩ := List.mem_ofFn.1 hx
      exact (Classical.choose_spec (hall i)).1

theorem trod_tokS {t : TypeId} {f0 f1 f2 : Field} {n : Nat} {cs : List Value} {x : DataW H × List MemPlace} (hs : P.underlying t = some (.struct #[f0, f1, f2])) (hone : oneCellFields P #[f0, f1, f2] = true) (hC : P.cellsOf t = 3)
    (h0 : P.underlying f0.type = some (.int .i64)) (h1 : P.underlying f1.type = some .string) (h2 : P.underlying f2.type = some (.int .i64)) (h : DataW.trod enc P w base spare held n t cs = some x) (hw : ∀ q ∈ x.1.weights P t, q ≤ reachBytes) : ∃ y : Tk, cs = tkC y ∧ TkInS y := by
  obtain ⟨xs, m, _, hx, hcl, hxl, hf⟩ := DataW.trod_struct hs h
  rw [hC] at hcl
  obtain ⟨c0, c1, c2, rfl⟩ : ∃ c0 c1 c2, cs = [c0, c1, c2] := by
    match cs, hcl with
    | [a, b, c], _ => exact ⟨a, b, c, rfl⟩
  obtain ⟨x0, x1, x2, rfl⟩ : ∃ x0 x1 x2, xs = [x0, x1, x2] := by
    match xs, hxl with
    | [a, b, c], _ => exact ⟨a, b, c, rfl⟩
  obtain ⟨o0, k0⟩ := hone_of hone 0 f0 rfl
  obtain ⟨o1, k1⟩ := hone_of hone 1 f1 rfl
  obtain ⟨o2, k2⟩ := hone_of hone 2 f2 rfl
  have g0 := hf 0 f0 rfl
  have g1 := hf 1 f1 rfl
  have g2 := hf 2 f2 rfl
  rw [o0, k0] at g0
  rw [o1, k1] at g1
  rw [o2, k2] at g2
  obtain ⟨a0, e0, _, w0⟩ := DataW.trod_int h0 g0
  obtain ⟨a1, e1, hd1, w1⟩ := DataW.trod_string h1 g1
  obtain ⟨a2, e2, _, w2⟩ := DataW.trod_int h2 g2
  simp at e0 e1 e2
  subst e0 e1 e2
  refine ⟨⟨a0, a1, a2⟩, rfl, ⟨w1, wf_i64 w0, wf_i64 w2⟩, ?_⟩
  rw [hx] at hw
  have hq : a1.size ∈ x1.1.weights P f1.type := by
    have hd : x1 = (.lit (.string a1.data.toList), []) := hd1
    rw [hd]
    rw [Lib.size_eq]
    simp [DataW.weights]
  have hm : a1.size ∈ DataW.weights P t (.agg [x0.1, x1.1, x2.1]) := by
    rw [DataW.weights, hs]
    exact DataW.weights_mem_each (j := 1) (t := f1.type) (d := x1.1) rfl rfl _ hq
  exact hw _ hm
end

section
variable {H : Type} {enc : TypeId × Value → H} {w : World} {base : Nat} {spare : Nat → Bool} {held : Bool}
theorem open_toksS {r : Reach} {b0 : Nat} {v : Value} {d : DataW H} {p : List MemPlace} (hv : Value.okWide Try.prog w r b0 22 v) (h : DataW.Trod enc Try.prog w base spare held 22 v d p) (hw : ∀ q ∈ d.weights Try.prog 22, q ≤ reachBytes) :
    ∃ (A : Option Addr) (n c : Nat) (l : List Tk), v = .slice A n c ∧ n = l.length ∧ l.length ≤ maxLen ∧ RdT w (.slice A n c) l ∧ ∀ x ∈ l, TkInS x :=
  open_rowsS tkC 3 TkInS Try.underlying22 (by kernel_rfl) tkC_three (by decide) (fun _ _ _ h hw => trod_tokS Try.underlying44 (by kernel_rfl) (by kernel_rfl) Try.underlying3 Try.underlying9 Try.underlying3 h hw) hv h hw
theorem open_itemsS {r : Reach} {b0 : Nat} {v : Value} {d : DataW H} {p : List MemPlace} (hv : Value.okWide Try.prog w r b0 36 v) (h : DataW.Trod enc Try.prog w base spare held 36 v d p) (hw : ∀ q ∈ d.weights Try.prog 36, q ≤ reachBytes) :
    ∃ (A : Option Addr) (n c : Nat) (l : List Tk), v = .slice A n c ∧ n = l.length ∧ l.length ≤ maxLen ∧ RdT w (.slice A n c) l ∧ ∀ x ∈ l, TkInS x :=
  open_rowsS tkC 3 TkInS Try.underlying36 (by kernel_rfl) tkC_three (by decide) (fun _ _ _ h hw => trod_tokS Try.underlying46 (by kernel_rfl) (by kernel_rfl) Try.underlying3 Try.underlying9 Try.underlying3 h hw) hv h hw
end

end Go.Proofs.Ytiigabojncnipaa
