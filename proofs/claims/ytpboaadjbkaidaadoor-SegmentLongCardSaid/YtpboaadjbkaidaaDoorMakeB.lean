
/-
  Contracts of package bitextmake: Next, word, Line.
-/
import Derived.Test.YtpboaadjbkaidaaDoorMakeA
import Derived.Test.YtpboaadjbkaidaaDoorMathMake
namespace Go.Proofs.YtpboaadjbkaidaaDoor
set_option maxRecDepth 100000
open Go.RowKit

/-- All but block g is as it was. -/
structure But (g : Nat) (w w' : World) : Prop where
  os : w'.os = w.os
  tape : w'.tape = w.tape
  output : w'.output = w.output
  size : w.heap.size ≤ w'.heap.size
  block : ∀ k, k < w.heap.size → k ≠ g → w'.heap[k]? = w.heap[k]?
theorem But.refl (g : Nat) (w : World) : But g w w := ⟨rfl, rfl, rfl, Nat.le_refl _, fun _ _ _ => rfl⟩
theorem But.trans {g : Nat} {a b c : World} (h : But g a b) (k : But g b c) : But g a c :=
  ⟨k.os.trans h.os, k.tape.trans h.tape, k.output.trans h.output, Nat.le_trans h.size k.size, fun i hi hn => (k.block i (Nat.lt_of_lt_of_le hi h.size) hn).trans (h.block i hi hn)⟩
theorem But.of_below {g : Nat} {w w' : World} (h : Below w.heap.size w w') : But g w w' := ⟨h.os, h.tape, h.output, h.size, fun k hk _ => h.block k hk⟩
theorem But.below {g B : Nat} {w w' : World} (h : But g w w') (hB : B ≤ g) (hg : g ≤ w.heap.size) : Below B w w' := ⟨h.os, h.tape, h.output, h.size, fun k hk => h.block k (by omega) (by omega)⟩
theorem But.alloc {g : Nat} {a w : World} (h : But g a w) (o : Obj) : But g a (w.alloc o) := h.trans (.of_below ((Below.refl _ _).alloc (Nat.le_refl _) o))
theorem But.drewN {g : Nat} {a w : World} (h : But g a w) (n : Nat) : But g a (w.drewN n) := ⟨h.os, h.tape, h.output, h.size, h.block⟩
theorem But.set {g : Nat} {a w : World} (h : But g a w) (o : Nat) (u : Value) : But g a (w.setCell ⟨g, o, none⟩ u) := by
  refine h.trans ⟨rfl, rfl, rfl, by simp [World.setCell], fun k hk hn => Below.heap_setCell _ _ _ _ hn⟩

/-- Block g holds Numbers: the list L (it lies below g), at place N. -/
def Nums (w : World) (g : Nat) (L : List Int) (N : Nat) : Prop := ∃ v W0, w.heap[g]? = some (.cells #[v, .int .i64 N] 62) ∧ RdE intC 1 W0 v L ∧ W0.heap.size ≤ g ∧ (∀ k, k < W0.heap.size → w.heap[k]? = W0.heap[k]?) ∧ (∀ x ∈ L, IntIn x)
theorem Nums.lt {w : World} {g : Nat} {L : List Int} {N : Nat} (h : Nums w g L N) : g < w.heap.size := by
  obtain ⟨v, W0, h, _⟩ := h
  exact (Array.getElem?_eq_some_iff.1 h).1
theorem Nums.keep {w w' : World} {g : Nat} {L : List Int} {N : Nat} (h : Nums w g L N) (hk : ∀ k, k < w.heap.size → w'.heap[k]? = w.heap[k]?) : Nums w' g L N := by
  have hlt := h.lt
  obtain ⟨v, W0, h1, h2, h3, h4, h5⟩ := h
  exact ⟨v, W0, (hk g hlt).trans h1, h2, h3, fun k hk' => (hk k (by omega)).trans (h4 k hk'), h5⟩
theorem Nums.below {w w' : World} {g : Nat} {L : List Int} {N B : Nat} (h : Nums w g L N) (hb : Below B w w') (hB : w.heap.size ≤ B) : Nums w' g L N := h.keep fun k hk => hb.block k (by omega)
theorem Nums.alloc {w : World} {g : Nat} {L : List Int} {N : Nat} (h : Nums w g L N) (o : Obj) : Nums (w.alloc o) g L N := h.keep fun _ hk => Below.heap_alloc _ _ _ hk

/-- A call that has drawn numbers. -/
def NumRet (g : Nat) (L : List Int) (N' : Nat) (v : Value) (w : World) (e : Ending) (w' : World) : Prop := e = .returned v ∧ But g w w' ∧ Nums w' g L N'

theorem frozen_of_row {w : World} {g : Nat} {cs : Array Value} {t : TypeId} (h : w.heap[g]? = some (.cells cs t)) (j : Nat) : w.frozen? ⟨g, j, none⟩ = false := by
  unfold World.frozen?
  rw [h]
  simp
theorem nums_next {w W0 : World} {g N : Nat} {L : List Int} {v : Value} (h1 : w.heap[g]? = some (.cells #[v, .int .i64 N] 62)) (h2 : RdE intC 1 W0 v L) (h3 : W0.heap.size ≤ g) (h4 : ∀ k, k < W0.heap.size → w.heap[k]? = W0.heap[k]?) (h5 : ∀ x ∈ L, IntIn x) (a : Nat) :
    Nums ((w.drewN a).setCell ⟨g, 1, none⟩ (.int .i64 ((N : Int) + 1))) g L (N + 1) := by
  refine ⟨v, W0, ?_, h2, h3, fun k hk => ?_, h5⟩
  · have hh : (w.drewN a).heap[g]? = w.heap[g]? := rfl
    show ((w.drewN a).heap.modify g _)[g]? = _
    rw [Array.getElem?_modify, if_pos rfl, hh, h1]
    rfl
  · rw [Below.heap_setCell _ _ _ _ (by show k ≠ g; omega)]
    exact h4 k hk

set_option maxHeartbeats 1000000 in
theorem next_any' (L : List Int) (g N : Nat) (n : Int) (w : World) (h : Nums w g L N) (hN : N ≤ 1000000000) (hn : 1 ≤ n) (hn2 : n ≤ 1000000) :
    Calls Tryd.prog 63 #[.pointer (some ⟨g, 0, none⟩), .int .i64 n] w (NumRet g L (N + 1) (.int .i64 (nextN L N n)) w) := by
  have hlt := h.lt
  obtain ⟨v, W0, h1, h2, h3, h4, h5⟩ := h
  have hrd : RdE intC 1 w v L := h2.keep (by omega) h4
  obtain ⟨A, c, rfl, _, _⟩ := hrd.shape
  have q1 : w.cell? ⟨g, 0, none⟩ = some (.slice A L.length c) := by rw [cell_of_row _ _ 0 _ _ _ h1]; rfl
  have q2 : w.cell? ⟨g, 1, none⟩ = some (.int .i64 N) := by rw [cell_of_row _ _ 1 _ _ _ h1]; rfl
  by_cases hNL : N < L.length
  · obtain ⟨b, o, rfl, hbl, hx⟩ := RdE.cells hrd (by omega)
    have q3 := hx N _ 0 _ (List.getElem?_eq_getElem hNL) rfl
    simp only [Nat.mul_one, Nat.add_zero] at q3
    have hin := h5 _ (List.getElem_mem hNL)
    have hv : Hid (nextN L N n = L[N] % n) := by
      show nextN L N n = L[N] % n
      unfold nextN
      rw [List.getD_eq_getElem?_getD, List.getElem?_eq_getElem hNL]
      rfl
    generalize L[N] = x at q3 hin hv
    have q4 : w.frozen? ⟨g, 1, none⟩ = false := frozen_of_row h1 1
    have HN := nums_next h1 h2 h3 h4 h5
    go_enter Tryd.func63, Tryd.ntmps63
    go_wp2_with fail
    go_quiet (fail)
    go_wp2_with fail
    go_quiet (fail)
    go_wp2_with (go_at_call 14; refine (place_any x n _ hin hn hn2).mono ?_; rintro e w' ⟨rfl, rfl⟩)
    go_ret
    refine ⟨ret_int hv.out.symm, ?_, ?_⟩
    · exact But.set (But.drewN (But.refl g w) _) 1 _
    · exact HN _
  · have hv : Hid (nextN L N n = 0 % n) := by
      show nextN L N n = 0 % n
      unfold nextN
      rw [List.getD_eq_getElem?_getD, List.getElem?_eq_none (by omega)]
      rfl
    have q4 : w.frozen? ⟨g, 1, none⟩ = false := frozen_of_row h1 1
    have HN := nums_next h1 h2 h3 h4 h5
    go_enter Tryd.func63, Tryd.ntmps63
    go_wp2_with fail
    go_quiet (fail)
    go_wp2_with (go_at_call 14; refine (place_any 0 n _ ⟨by omega, by omega⟩ hn hn2).mono ?_; rintro e w' ⟨rfl, rfl⟩)
    go_ret
    refine ⟨ret_int hv.out.symm, ?_, ?_⟩
    · exact But.set (But.drewN (But.refl g w) _) 1 _
    · exact HN _

theorem cells_strs (w : World) (g : Nat) (hg : w.heap.size = g) (xs : List ByteArray) (t : TypeId) (k : Nat) (h : k < xs.length) : (w.alloc (.cells (xs.map Value.string).toArray t)).cell? ⟨g, k, none⟩ = some (.string (xs.getD k ⟨#[]⟩)) := by
  subst hg
  have := cells_new w (xs.map Value.string) t k (.string (xs.getD k ⟨#[]⟩)) (by rw [List.getElem?_map, List.getElem?_eq_getElem h, List.getD_eq_getElem?_getD, List.getElem?_eq_getElem h]; rfl)
  rwa [Addr.add_lit, Nat.zero_add] at this

theorem word_any' (L : List Int) (g N : Nat) (w : World) (h : Nums w g L N) (hN : N ≤ 1000000000) :
    Calls Tryd.prog 95 #[.pointer (some ⟨g, 0, none⟩)] w (NumRet g L (N + 1) (.string (mkWord L N)) w) := by
  have H := Lib.hid (h.alloc (.cells (words.map Value.string).toArray 9))
  have hn := nextN_bd L N 24 (by omega)
  have HC := cells_strs w _ rfl words 9 (nextN L N 24).toNat (by show _ < 24; omega)
  have HW : Hid (words.getD (nextN L N 24).toNat ⟨#[]⟩ = mkWord L N) := by show words.getD (nextN L N 24).toNat ⟨#[]⟩ = mkWord L N; rfl
  have HB := Lib.hid (But.alloc (But.refl g w) (.cells (words.map Value.string).toArray 9))
  have HX := fun (X : World) (hb : But g (w.alloc (.cells (words.map Value.string).toArray 9)) X) => (World.cell?_of_block (a := ⟨w.heap.size, (nextN L N 24).toNat, none⟩) (hb.block w.heap.size (by simp) (by have := h.lt; omega))).trans HC
  have HXX := Lib.hid HX
  clear h HX HC
  go_enter Tryd.func95, Tryd.ntmps95
  go_wp2_with fail
  refine (next_any' L g N 24 _ (by exact H.out) hN (by decide) (by decide)).mono ?_
  rintro e w1 ⟨rfl, hb1, hn1⟩
  have q := HXX.out w1 (by exact hb1)
  have hb2 : But g w w1 := HB.out.trans (by exact hb1)
  rw [HW.out] at q
  generalize nextN L N 24 = z at hn q
  have hz : ((z.toNat : Nat) : Int) = z := by omega
  go_wp2_with fail
  go_ret
  exact ⟨rfl, hb2, hn1⟩

end Go.Proofs.YtpboaadjbkaidaaDoor
