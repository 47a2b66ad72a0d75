
/-
  How the statements' tokens and items are opened.
-/
import Derived.Test.YtpboaadjbkaidaaDoorTok
import Derived.Test.YtpboaadjbkaidaaDoorOpen
import Derived.Lib.SmallJoins
namespace Go.Proofs.YtpboaadjbkaidaaDoor
set_option maxRecDepth 100000
open Go.ChangeShapes Go.WideShapes Go.ChangeAt Go.RowKit Go.Deep Go.Joins

/-- What an argument's token keeps to. -/
def TkIn (x : Tk) : Prop := x.t.size ≤ maxLen ∧ (-9223372036854775808 ≤ x.k ∧ x.k ≤ 9223372036854775807) ∧ (-9223372036854775808 ≤ x.d ∧ x.d ≤ 9223372036854775807)

theorem wf_i64 {n : Int} (h : (Lit.int .i64 n).wf = true) : -9223372036854775808 ≤ n ∧ n ≤ 9223372036854775807 := by
  simp only [Lit.wf, Bool.and_eq_true, decide_eq_true_eq] at h
  exact h

section
variable {H : Type} {enc : TypeId × Value → H} {P : Program} {w : World} {base : Nat} {spare : Nat → Bool} {held : Bool}

theorem open_rows {α : Type} (f : α → List Value) (m : Nat) (good : α → Prop) {r : Reach} {b0 : Nat} {t e : TypeId} {v : Value} {d : DataW H} {p : List MemPlace} (ht : P.underlying t = some (.slice e)) (hC : P.cellsOf e = m) (hm : ∀ x, (f x).length = m) (hm0 : 0 < m)
    (hel : ∀ n cs x, DataW.trod enc P w base spare held n e cs = some x → ∃ y : α, cs = f y ∧ good y) (hv : Value.okWide P w r b0 t v) (h : DataW.Trod enc P w base spare held t v d p) :
    ∃ (A : Option Addr) (n c : Nat) (l : List α), v = .slice A n c ∧ n = l.length ∧ l.length ≤ maxLen ∧ RdE f m w (.slice A n c) l ∧ ∀ x ∈ l, good x := by
  obtain ⟨A, n, c, rfl⟩ := okWide_slice ht hv
  obtain ⟨fuel, hf⟩ := h
  rcases open_slice ht hf with ⟨h0, _⟩ | ⟨a, len, cap, k, n', D, Pl, hcs, _, hl, hmx, hk, _, hi⟩
  · simp [Value.cells] at h0
    obtain ⟨rfl, rfl, rfl⟩ := h0
    exact ⟨none, 0, 0, [], rfl, rfl, by simp, RdE.nil, by simp⟩
  · simp [Value.cells] at hcs
    obtain ⟨rfl, rfl, rfl⟩ := hcs
    have hlk : n ≤ k := by rw [hk]; split <;> omega
    have hall : ∀ i : Fin n, ∃ y : α, good y ∧ ∀ (j : Nat) (u : Value), (f y)[j]? = some u → w.cell? (a.add (i.val * m + j)) = some u := by
      intro i
      obtain ⟨cs', hc, htr⟩ := hi i.val (by omega)
      obtain ⟨y, rfl, hy⟩ := hel _ _ _ htr
      refine ⟨y, hy, fun j u hju => ?_⟩
      obtain ⟨_, hcl, hat⟩ := World.cells?_some hc
      have hjm : j < m := by rw [← hm y]; exact (List.getElem?_eq_some_iff.1 hju).1
      have := hat j (by rw [hC]; exact hjm)
      rw [hju, hC, Go.Deep.add_add] at this
      exact this
    refine ⟨some a, n, c, List.ofFn fun i => Classical.choose (hall i), rfl, by simp, by simp; omega, ?_, ?_⟩
    · refine ⟨some a, c, by simp, by simp; omega, (fun h => by cases h), fun h0 => ?_⟩
      have hn0 : 0 < n := by simpa using h0
      have hc0 := Classical.choose_spec (hall ⟨0, hn0⟩)
      have h00 : (f (Classical.choose (hall ⟨0, hn0⟩)))[0]? = some _ := List.getElem?_eq_getElem (by rw [hm]; omega)
      have hcell0 := hc0.2 0 _ h00
      obtain ⟨b, o, sp⟩ := a
      have hsp : sp = none := by simpa [Addr.add] using World.cell?_spot hcell0
      subst hsp
      have hbl : b < w.heap.size := by
        unfold World.cell? at hcell0
        split at hcell0
        · rename_i hh
          have := (Array.getElem?_eq_some_iff.1 hh).1
          rw [Addr.add_lit] at this
          exact this
        · cases hcell0
      refine ⟨b, o, rfl, hbl, fun i x j u hx hu => ?_⟩
      rw [List.getElem?_ofFn] at hx
      split at hx
      · rename_i hin
        injection hx with hx
        subst hx
        have := (Classical.choose_spec (hall ⟨i, hin⟩)).2 j u hu
        rw [Addr.add_lit] at this
        exact this
      · cases hx
    · intro x hx
      obtain ⟨i, rfl⟩ := List.mem_ofFn.1 hx
      exact (Classical.choose_spec (hall i)).1

/-- The struct of a token (an item) as its cells. -/
theorem trod_tok {t : TypeId} {f0 f1 f2 : Field} {n : Nat} {cs : List Value} {x : DataW H × List MemPlace} (hs : P.underlying t = some (.struct #[f0, f1, f2])) (hone : oneCellFields P #[f0, f1, f2] = true) (hC : P.cellsOf t = 3)
    (h0 : P.underlying f0.type = some (.int .i64)) (h1 : P.underlying f1.type = some .string) (h2 : P.underlying f2.type = some (.int .i64)) (h : DataW.trod enc P w base spare held n t cs = some x) : ∃ y : Tk, cs = tkC y ∧ TkIn y := by
  obtain ⟨xs, m, _, _, hcl, hxl, hf⟩ := DataW.trod_struct hs h
  rw [hC] at hcl
  obtain ⟨c0, c1, c2, rfl⟩ : ∃ c0 c1 c2, cs = [c0, c1, c2] := by
    match cs, hcl with
    | [a, b, c], _ => exact ⟨a, b, c, rfl⟩
  obtain ⟨x0, x1, x2, rfl⟩ : ∃ x0 x1 x2, xs = [x0, x1, x2] := by
    match xs, hxl with
    | [a, b, c], _ => exact ⟨a, b, c, rfl⟩
  obtain ⟨o0, k0⟩ := hone_of hone 0 f0 rfl
  obtain ⟨o1, k1⟩ := hone_of hone 1 f1 rfl
  obtain ⟨o2, k2⟩ := hone_of hone 2 f2 rfl
  have g0 := hf 0 f0 rfl
  have g1 := hf 1 f1 rfl
  have g2 := hf 2 f2 rfl
  rw [o0, k0] at g0
  rw [o1, k1] at g1
  rw [o2, k2] at g2
  obtain ⟨a0, e0, _, w0⟩ := DataW.trod_int h0 g0
  obtain ⟨a1, e1, _, w1⟩ := DataW.trod_string h1 g1
  obtain ⟨a2, e2, _, w2⟩ := DataW.trod_int h2 g2
  simp at e0 e1 e2
  subst e0 e1 e2
  exact ⟨⟨a0, a1, a2⟩, rfl, w1, wf_i64 w0, wf_i64 w2⟩
end

section
variable {H : Type} {enc : TypeId × Value → H} {w : World} {base : Nat} {spare : Nat → Bool} {held : Bool}
theorem trod_item {n : Nat} {cs : List Value} {x : DataW H × List MemPlace} (h : DataW.trod enc Tryd.prog w base spare held n 84 cs = some x) : ∃ y : Tk, cs = tkC y ∧ TkIn y :=
  trod_tok Tryd.underlying84 (by kernel_rfl) (by kernel_rfl) Tryd.underlying3 Tryd.underlying9 Tryd.underlying3 h
theorem open_items {r : Reach} {b0 : Nat} {v : Value} {d : DataW H} {p : List MemPlace} (hv : Value.okWide Tryd.prog w r b0 57 v) (h : DataW.Trod enc Tryd.prog w base spare held 57 v d p) :
    ∃ (A : Option Addr) (n c : Nat) (l : List Tk), v = .slice A n c ∧ n = l.length ∧ l.length ≤ maxLen ∧ RdT w (.slice A n c) l ∧ ∀ x ∈ l, TkIn x :=
  open_rows tkC 3 TkIn Tryd.underlying57 (by kernel_rfl) tkC_three (by decide) (fun _ _ _ h => trod_item h) hv h
/-- An int in a slice. -/
def intC (x : Int) : List Value := [.int .i64 x]
theorem intC_one (x : Int) : (intC x).length = 1 := rfl
def IntIn (x : Int) : Prop := -9223372036854775808 ≤ x ∧ x ≤ 9223372036854775807
theorem open_intl {r : Reach} {b0 : Nat} {v : Value} {d : DataW H} {p : List MemPlace} (hv : Value.okWide Tryd.prog w r b0 32 v) (h : DataW.Trod enc Tryd.prog w base spare held 32 v d p) :
    ∃ (A : Option Addr) (n c : Nat) (l : List Int), v = .slice A n c ∧ n = l.length ∧ l.length ≤ maxLen ∧ RdE intC 1 w (.slice A n c) l ∧ ∀ x ∈ l, IntIn x :=
  open_rows intC 1 IntIn Tryd.underlying32 (by kernel_rfl) intC_one (by decide) (fun n cs x h => by
    obtain ⟨a, e, _, wf⟩ := DataW.trod_int Tryd.underlying3 h
    exact ⟨a, e, wf_i64 wf⟩) hv h
end

end Go.Proofs.YtpboaadjbkaidaaDoor
