
/-
  How the statements' edits are opened; an edit changed in place.
-/
import Derived.Test.YteccphcophjhpaaOpenTok
import Derived.Test.YteccphcophjhpaaMathEd
import Derived.Laws.OwnMore
namespace Go.Proofs.Yteccphcophjhpaa
open Go.ChangeShapes Go.WideShapes Go.ChangeAt Go.RowKit Go.Deep Go.Joins

section
variable {H : Type} {enc : TypeId × Value → H} {P : Program} {w : World} {base : Nat} {spare : Nat → Bool} {held : Bool}
theorem trod_two {t : TypeId} {f0 f1 : Field} {n : Nat} {cs : List Value} {x : DataW H × List MemPlace} (hs : P.underlying t = some (.struct #[f0, f1])) (hone : oneCellFields P #[f0, f1] = true) (hC : P.cellsOf t = 2)
    (h0 : P.underlying f0.type = some (.int .i64)) (h1 : P.underlying f1.type = some (.int .i64)) (h : DataW.trod enc P w base spare held n t cs = some x) : ∃ y : Ed, cs = edC y ∧ True := by
  obtain ⟨xs, m, _, _, hcl, hxl, hf⟩ := DataW.trod_struct hs h
  rw [hC] at hcl
  obtain ⟨c0, c1, rfl⟩ : ∃ c0 c1, cs = [c0, c1] := by
    match cs, hcl with
    | [a, b], _ => exact ⟨a, b, rfl⟩
  obtain ⟨x0, x1, rfl⟩ : ∃ x0 x1, xs = [x0, x1] := by
    match xs, hxl with
    | [a, b], _ => exact ⟨a, b, rfl⟩
  obtain ⟨o0, k0⟩ := hone_of hone 0 f0 rfl
  obtain ⟨o1, k1⟩ := hone_of hone 1 f1 rfl
  have g0 := hf 0 f0 rfl
  have g1 := hf 1 f1 rfl
  rw [o0, k0] at g0
  rw [o1, k1] at g1
  obtain ⟨a0, e0, _, w0⟩ := DataW.trod_int h0 g0
  obtain ⟨a1, e1, _, w1⟩ := DataW.trod_int h1 g1
  simp at e0 e1
  subst e0 e1
  exact ⟨⟨a0, a1⟩, rfl, trivial⟩
end
section
variable {H : Type} {enc : TypeId × Value → H} {w : World} {base : Nat} {spare : Nat → Bool} {held : Bool}
theorem trod_edit {n : Nat} {cs : List Value} {x : DataW H × List MemPlace} (h : DataW.trod enc Try.prog w base spare held n 43 cs = some x) : ∃ y : Ed, cs = edC y ∧ True :=
  trod_two Try.underlying43 (by kernel_rfl) (by kernel_rfl) Try.underlying3 Try.underlying3 h
theorem open_edits {r : Reach} {b0 : Nat} {v : Value} {d : DataW H} {p : List MemPlace} (hv : Value.okWide Try.prog w r b0 41 v) (h : DataW.Trod enc Try.prog w base spare held 41 v d p) :
    ∃ (A : Option Addr) (n c : Nat) (l : List Ed), v = .slice A n c ∧ n = l.length ∧ l.length ≤ maxLen ∧ RdEd w (.slice A n c) l ∧ ∀ x ∈ l, True :=
  open_rows edC 2 (fun _ => True) Try.underlying41 (by kernel_rfl) edC_two (by decide) (fun _ _ _ h => trod_edit h) hv h
end

/-- The script with a new place of the first list in edit j. -/
def setA (l : List Ed) (j : Nat) (z : Int) : List Ed := l.set j ⟨z, (l.getD j ⟨0, 0⟩).B⟩
theorem setA_length (l : List Ed) (j : Nat) (z : Int) : (setA l j z).length = l.length := List.length_set
theorem RdEd.setA {w : World} {g n c : Nat} {l : List Ed} (h : RdEd w (.slice (some ⟨g, 0, none⟩) n c) l) (j : Nat) (hj : j < l.length) (z : Int) :
    RdEd (w.setCell ⟨g, j * 2, none⟩ (.int .i64 z)) (.slice (some ⟨g, 0, none⟩) n c) (setA l j z) := by
  obtain ⟨A', c', hv, hc, hn, hx⟩ := h
  injection hv with h1 h2 h3
  subst h1 h2 h3
  refine ⟨_, _, by rw [setA_length], by rw [setA_length]; exact hc, hn, fun h0 => ?_⟩
  rw [setA_length] at h0
  obtain ⟨b, o, hA, hb, hcc⟩ := hx h0
  injection hA with hA
  injection hA with e1 e2 _
  subst e1 e2
  refine ⟨g, 0, rfl, by simpa [World.setCell] using hb, fun i x q u hi hq => ?_⟩
  have hi2 : i < l.length := by
    have := (List.getElem?_eq_some_iff.1 hi).1
    rwa [setA_length] at this
  have hq2 : q < 2 := (List.getElem?_eq_some_iff.1 hq).1
  by_cases hij : i = j
  · subst hij
    have hxe : x = ⟨z, l[i].B⟩ := by
      unfold Go.Proofs.Yteccphcophjhpaa.setA at hi
      rw [List.getElem?_set_self hi2, List.getD_eq_getElem?_getD, List.getElem?_eq_getElem hi2] at hi
      exact (Option.some.inj hi).symm
    subst hxe
    have hold := fun (q : Nat) (u : Value) (hq : (edC l[i])[q]? = some u) => hcc i l[i] q u (List.getElem?_eq_getElem hi2) hq
    match q, hq2 with
    | 0, _ =>
      simp [edC] at hq
      subst hq
      have := hold 0 (.int .i64 l[i].A) rfl
      rw [Nat.add_zero] at this ⊢
      rw [Nat.zero_add] at this ⊢
      exact World.cell?_setCell_same _ _ _ this
    | 1, _ =>
      simp [edC] at hq
      subst hq
      have := hold 1 (.int .i64 l[i].B) rfl
      exact (World.cell?_setCell_other w ⟨g, i * 2, none⟩ ⟨g, 0 + (i * 2 + 1), none⟩ _ (fun e => by injection e with _ e; omega)).trans this
  · have hi' : l[i]? = some x := by
      unfold Go.Proofs.Yteccphcophjhpaa.setA at hi
      rw [List.getElem?_set_ne (fun e => hij e.symm)] at hi
      exact hi
    exact (World.cell?_setCell_other w ⟨g, j * 2, none⟩ ⟨g, 0 + (i * 2 + q), none⟩ _ (fun e => by injection e with _ e; omega)).trans (hcc i x q u hi' hq)

end Go.Proofs.Yteccphcophjhpaa
