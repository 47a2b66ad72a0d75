
/-
  The walk of the law TokenWeighs.
-/
import Derived.Test.YtfkjlaepknhicaaLaw11A
import Derived.Test.YtfkjlaepknhicaaMakeA
import Derived.Deep.RegionHeld3
import Derived.Deep.MidRow
namespace Go.Proofs.Ytfkjlaepknhicaa
open Go.RowKit

/-- What a region over two boxes keeps: the boxes' cells, and whatever lay below. -/
abbrev Box2 (W : World) (a b : Nat) (x y : Tk) (w' : World) : Prop :=
  w'.cell? ⟨a, 0, none⟩ = some (.int .i64 x.k) ∧ w'.cell? ⟨a, 1, none⟩ = some (.string x.t) ∧ w'.cell? ⟨a, 2, none⟩ = some (.int .i64 x.d) ∧
  w'.cell? ⟨b, 0, none⟩ = some (.int .i64 y.k) ∧ w'.cell? ⟨b, 1, none⟩ = some (.string y.t) ∧ w'.cell? ⟨b, 2, none⟩ = some (.int .i64 y.d) ∧ Hid (Below W.heap.size W w' ∧ a < W.heap.size ∧ b < W.heap.size)

theorem Box2.drew {W X : World} {a b : Nat} {x y : Tk} (h : Box2 W a b x y X) : Box2 W a b x y X.drew := by
  obtain ⟨h1, h2, h3, h4, h5, h6, h7⟩ := h
  exact ⟨h1, h2, h3, h4, h5, h6, ⟨below_drewN h7.out.1 1, h7.out.2⟩⟩
theorem Box2.call {W X w' : World} {a b : Nat} {x y : Tk} (hb : Below X.heap.size X w') (h : Box2 W a b x y X) : Box2 W a b x y w' := by
  obtain ⟨h1, h2, h3, h4, h5, h6, h7⟩ := h
  have ha := Nat.lt_of_lt_of_le h7.out.2.1 h7.out.1.size
  have hb' := Nat.lt_of_lt_of_le h7.out.2.2 h7.out.1.size
  refine ⟨?_, ?_, ?_, ?_, ?_, ?_, ⟨h7.out.1.trans (hb.mono h7.out.1.size), h7.out.2⟩⟩
  · rw [hb.cell (p := ⟨a, 0, none⟩) ha]; exact h1
  · rw [hb.cell (p := ⟨a, 1, none⟩) ha]; exact h2
  · rw [hb.cell (p := ⟨a, 2, none⟩) ha]; exact h3
  · rw [hb.cell (p := ⟨b, 0, none⟩) hb']; exact h4
  · rw [hb.cell (p := ⟨b, 1, none⟩) hb']; exact h5
  · rw [hb.cell (p := ⟨b, 2, none⟩) hb']; exact h6

theorem two_first (w : World) (o p : Obj) : ((w.alloc o).alloc p).heap[w.heap.size]? = some o := by
  rw [Below.heap_alloc (w.alloc o) p w.heap.size (by simp)]
  exact Array.getElem?_push_size
theorem two_second (w : World) (o p : Obj) : ((w.alloc o).alloc p).heap[w.heap.size + 1]? = some p := by
  have : (w.alloc o).heap.size = w.heap.size + 1 := by simp
  rw [← this]
  exact Array.getElem?_push_size
theorem box3 {w : World} {b : Nat} {v0 v1 v2 : Value} {t : TypeId} (h : w.heap[b]? = some (.cells #[v0, v1, v2] t)) :
    w.cell? ⟨b, 0, none⟩ = some v0 ∧ w.cell? ⟨b, 1, none⟩ = some v1 ∧ w.cell? ⟨b, 2, none⟩ = some v2 ∧ (∀ j, w.frozen? ⟨b, j, none⟩ = false) :=
  ⟨by rw [cell_of_row _ _ 0 _ _ _ h]; rfl, by rw [cell_of_row _ _ 1 _ _ _ h]; rfl, by rw [cell_of_row _ _ 2 _ _ _ h]; rfl, fun j => by unfold World.frozen?; rw [h]; simp⟩

theorem Box2.mk {W : World} {a b : Nat} {x y : Tk} {t : TypeId} (h1 : W.heap[a]? = some (.cells #[.int .i64 x.k, .string x.t, .int .i64 x.d] t)) (h2 : W.heap[b]? = some (.cells #[.int .i64 y.k, .string y.t, .int .i64 y.d] t)) : Box2 W a b x y W := by
  obtain ⟨p0, p1, p2, _⟩ := box3 h1
  obtain ⟨r0, r1, r2, _⟩ := box3 h2
  exact ⟨p0, p1, p2, r0, r1, r2, ⟨Below.refl _ _, (Array.getElem?_eq_some_iff.1 h1).1, (Array.getElem?_eq_some_iff.1 h2).1⟩⟩
theorem set_row' {w : World} {b : Nat} {cs : Array Value} {t : TypeId} (h : w.heap[b]? = some (.cells cs t)) (j : Nat) (u : Value) : (w.setCell ⟨b, j, none⟩ u).heap[b]? = some (.cells (cs.setIfInBounds j u) t) := by
  show (w.heap.modify b _)[b]? = _
  rw [Array.getElem?_modify, if_pos rfl, h]
  rfl

set_option maxRecDepth 100000 in
set_option maxHeartbeats 8000000 in
theorem walk_TokenWeighs (x y : Tk) (kind : Int) (w : World) (hx : TkIn x) (hy : TkIn y) (hk : (Lit.int .i64 kind).wf = true) :
    Calls Try.prog 7 #[.agg #[.int .i64 x.k, .string x.t, .int .i64 x.d], .agg #[.int .i64 y.k, .string y.t, .int .i64 y.d], .int .i64 kind] w fun e w' => e = .returned (.bool true) ∧ Below w.heap.size w w' := by
  obtain ⟨xk, xt, xd⟩ := x
  obtain ⟨yk, yt, yd⟩ := y
  obtain ⟨hx1, _, _⟩ := hx
  obtain ⟨hy1, _, _⟩ := hy
  have hki := wf_i64 hk
  clear hk
  simp only at hx1 hy1
  unfold maxLen at hx1 hy1
  have hA : Below w.heap.size w ((w.alloc (.cells #[.int .i64 xk, .string xt, .int .i64 xd] 33)).alloc (.cells #[.int .i64 yk, .string yt, .int .i64 yd] 33)) :=
    ((Below.refl _ _).alloc (Nat.le_refl _) _).alloc (by simp) _
  by_cases h1 : 100 < xt.size
  · go_enter Try.func7, Try.ntmps7
    go_wp2_with (go_at_call 11; refine (known_any _).mono ?_; rintro e w' ⟨rfl, hb'⟩)
    go_ret
    exact ⟨rfl, hA.trans (hb'.mono (by simp; omega))⟩
  by_cases h2 : 100 < yt.size
  · go_enter Try.func7, Try.ntmps7
    go_wp2_with (go_at_call 11; refine (known_any _).mono ?_; rintro e w' ⟨rfl, hb'⟩)
    go_ret
    exact ⟨rfl, hA.trans (hb'.mono (by simp; omega))⟩
  go_enter Try.func7, Try.ntmps7
  go_wp2_with (go_at_call 21; refine (place_any kind 11 _ hki (by decide) (by decide)).mono ?_; rintro e w' ⟨rfl, rfl⟩)
  go_loopw [25] (fun i wr => ∃ (k : Nat) (ka : Int), k ≤ 2 ∧ i = .int .i64 k ∧ Below w.heap.size w wr ∧ wr.heap[w.heap.size]? = some (.cells #[.int .i64 ka, .string xt, .int .i64 xd] 33) ∧
      wr.heap[w.heap.size + 1]? = some (.cells #[.int .i64 yk, .string yt, .int .i64 yd] 33)) (fun i _ => 2 - (intOf i).toNat)
  case atStart => exact ⟨0, xk, by omega, rfl, hA, two_first _ _ _, two_second _ _ _⟩
  case round =>
    obtain ⟨k, ka, hk2, rfl, hb, q1, q2⟩ := hrel
    have hsize := hb.size
    by_cases hkl : k < 2
    · obtain ⟨p0, p1, p2, p3⟩ := box3 q1
      obtain ⟨r0, r1, r2, r3⟩ := box3 q2
      have f0 := p3 0
      clear p3 r3
      obtain ⟨kv, hidx⟩ : ∃ kv : Int, ∀ w : World, (Instr.index 39 (.agg #[.int .i64 kind, .int .i64 (kind % 11)]) (.int .i64 (k : Int))).run Try.prog w = .ok (.int .i64 kv) w := by
        rcases (show k = 0 ∨ k = 1 by omega) with rfl | rfl
        · exact ⟨kind, fun w => by kernel_rfl⟩
        · exact ⟨kind % 11, fun w => by kernel_rfl⟩
      go_wp2_with fail
      have Q1 : Hid ((wr.setCell ⟨w.heap.size, 0, none⟩ (.int .i64 kv)).heap[w.heap.size]? = some (.cells #[.int .i64 kv, .string xt, .int .i64 xd] 33)) := set_row' q1 0 (.int .i64 kv)
      have Q2 : Hid ((wr.setCell ⟨w.heap.size, 0, none⟩ (.int .i64 kv)).heap[w.heap.size + 1]? = some (.cells #[.int .i64 yk, .string yt, .int .i64 yd] 33)) := by
        show (wr.setCell ⟨w.heap.size, 0, none⟩ (.int .i64 kv)).heap[w.heap.size + 1]? = _
        rw [Below.heap_setCell _ _ _ _ (by show w.heap.size + 1 ≠ w.heap.size; omega)]
        exact q2
      have QB := Lib.hid (Below.setCell hb (p := ⟨w.heap.size, 0, none⟩) (Nat.le_refl _) (.int .i64 kv))
      generalize wr.setCell ⟨w.heap.size, 0, none⟩ (.int .i64 kv) = ws at Q1 Q2 QB
      clear q1 q2 p0 p1 p2 r0 r1 r2 f0 hb hidx
      obtain ⟨s1, s2, s3, s4, s5, s6, s7⟩ := Box2.mk (x := ⟨kv, xt, xd⟩) (y := ⟨yk, yt, yd⟩) Q1.out Q2.out
      go_region_held3 (fun w' => w'.cell? ⟨w.heap.size, 0, none⟩ = some (.int .i64 kv) ∧ w'.cell? ⟨w.heap.size, 1, none⟩ = some (.string xt) ∧ w'.cell? ⟨w.heap.size, 2, none⟩ = some (.int .i64 xd) ∧ w'.cell? ⟨w.heap.size + 1, 0, none⟩ = some (.int .i64 yk) ∧ w'.cell? ⟨w.heap.size + 1, 1, none⟩ = some (.string yt) ∧ w'.cell? ⟨w.heap.size + 1, 2, none⟩ = some (.int .i64 yd) ∧ Hid (Below ws.heap.size ws w' ∧ w.heap.size < ws.heap.size ∧ w.heap.size + 1 < ws.heap.size))
        (first | exact ⟨s1, s2, s3, s4, s5, s6, s7⟩ | exact Box2.drew (x := ⟨kv, xt, xd⟩) (y := ⟨yk, yt, yd⟩) ⟨s1, s2, s3, s4, s5, s6, s7⟩ | assumption | exact Box2.call (x := ⟨kv, xt, xd⟩) (y := ⟨yk, yt, yd⟩) hb' (Box2.drew (x := ⟨kv, xt, xd⟩) (y := ⟨yk, yt, yd⟩) ⟨s1, s2, s3, s4, s5, s6, s7⟩) | (refine Box2.call (x := ⟨kv, xt, xd⟩) (y := ⟨yk, yt, yd⟩) hb' ?_; with_reducible_and_instances assumption) | (refine Box2.drew (x := ⟨kv, xt, xd⟩) (y := ⟨yk, yt, yd⟩) ?_; assumption))
        (first
          | (go_at_call 22; refine (weight_any _ _ _ _).mono ?_; rintro e w' ⟨rfl, hb'⟩)
          | (go_at_call 23; refine (rweight_any _ _ _ _).mono ?_; rintro e w' ⟨rfl, hb'⟩)
          | (go_at_call 24; refine (key_any _ _ _ _ (by unfold maxLen; omega)).mono ?_; rintro e w' ⟨rfl, hb'⟩)
          | (go_at_call 25; refine (rkey_any _ _ _ _ (by unfold maxLen; omega)).mono ?_; rintro e w' ⟨rfl, hb'⟩)
          | (go_at_call 26; refine (same_any _ _ _ _ _ _ _).mono ?_; rintro e w' ⟨rfl, hb'⟩)
          | (go_at_call 27; refine (rsame_any _ _ _ _ _ _ _).mono ?_; rintro e w' ⟨rfl, hb'⟩))
      rename_i hh
      obtain ⟨t1, t2, t3, t4, t5, t6, t7⟩ := hh
      have Q3 := Lib.hid ((t7.out.1.block _ t7.out.2.1).trans Q1.out)
      have Q4 := Lib.hid ((t7.out.1.block _ t7.out.2.2).trans Q2.out)
      have QC := Lib.hid (QB.out.trans (t7.out.1.mono QB.out.size))
      have hlt := t7.out.2.2
      have hlt2 := t7.out.1.size
      have hlt3 : w.heap.size + 1 < w'.heap.size := by omega
      have hlt4 : w.heap.size < w'.heap.size := by omega
      clear s1 s2 s3 s4 s5 s6 s7 t7 Q1 Q2 QB
      go_wp2_with fail
      have Q5 : Hid ((w'.alloc (.cells #[.int .i64 kv, .string xt, .int .i64 yd] 33)).heap[w'.heap.size]? = some (.cells #[.int .i64 kv, .string xt, .int .i64 yd] 33)) := Array.getElem?_push_size
      have Q6 := Lib.hid ((Below.heap_alloc w' (.cells #[.int .i64 kv, .string xt, .int .i64 yd] 33) _ hlt4).trans Q3.out)
      have Q7 := Lib.hid ((Below.heap_alloc w' (.cells #[.int .i64 kv, .string xt, .int .i64 yd] 33) _ hlt3).trans Q4.out)
      have QD := Lib.hid (QC.out.alloc (by omega) (.cells #[.int .i64 kv, .string xt, .int .i64 yd] 33))
      have hkd : keyT ⟨kv, xt, yd⟩ = keyT ⟨kv, xt, xd⟩ := rfl
      generalize hc : w'.heap.size = cc at Q5 Q6 Q7 QD
      have HC := Lib.hid hc
      clear hc
      generalize (w'.alloc (.cells #[.int .i64 kv, .string xt, .int .i64 yd] 33)) = wz at Q5 Q6 Q7 QD
      clear t1 t2 t3 t4 t5 t6 Q3 Q4 QC
      obtain ⟨s1, s2, s3, s4, s5, s6, s7⟩ := Box2.mk (x := ⟨kv, xt, xd⟩) (y := ⟨kv, xt, yd⟩) Q6.out Q5.out
      go_region_held3 (fun w' => w'.cell? ⟨w.heap.size, 0, none⟩ = some (.int .i64 kv) ∧ w'.cell? ⟨w.heap.size, 1, none⟩ = some (.string xt) ∧ w'.cell? ⟨w.heap.size, 2, none⟩ = some (.int .i64 xd) ∧ w'.cell? ⟨cc, 0, none⟩ = some (.int .i64 kv) ∧ w'.cell? ⟨cc, 1, none⟩ = some (.string xt) ∧ w'.cell? ⟨cc, 2, none⟩ = some (.int .i64 yd) ∧ Hid (Below wz.heap.size wz w' ∧ w.heap.size < wz.heap.size ∧ cc < wz.heap.size))
        (first | exact ⟨s1, s2, s3, s4, s5, s6, s7⟩ | exact Box2.drew (x := ⟨kv, xt, xd⟩) (y := ⟨kv, xt, yd⟩) ⟨s1, s2, s3, s4, s5, s6, s7⟩ | assumption | exact Box2.call (x := ⟨kv, xt, xd⟩) (y := ⟨kv, xt, yd⟩) hb' (Box2.drew (x := ⟨kv, xt, xd⟩) (y := ⟨kv, xt, yd⟩) ⟨s1, s2, s3, s4, s5, s6, s7⟩) | (refine Box2.call (x := ⟨kv, xt, xd⟩) (y := ⟨kv, xt, yd⟩) hb' ?_; with_reducible_and_instances assumption) | (refine Box2.drew (x := ⟨kv, xt, xd⟩) (y := ⟨kv, xt, yd⟩) ?_; assumption))
        (first
          | (go_at_call 24; refine (key_any _ _ _ _ (by unfold maxLen; omega)).mono ?_; rintro e w' ⟨rfl, hb'⟩)
          | (go_at_call 26; refine (same_any _ _ _ _ _ _ _).mono ?_; rintro e w' ⟨rfl, hb'⟩))
      rename_i hh
      obtain ⟨t1, t2, t3, t4, t5, t6, t7⟩ := hh
      have QE := Lib.hid (QD.out.trans (t7.out.1.mono QD.out.size))
      have Q8 := Lib.hid ((t7.out.1.block _ t7.out.2.1).trans Q6.out)
      have Q9 := Lib.hid ((t7.out.1.block _ (Array.getElem?_eq_some_iff.1 Q7.out).1).trans Q7.out)
      clear s1 s2 s3 s4 s5 s6 s7 t1 t2 t3 t4 t5 t6 t7
      go_wp2_with fail
      exact ⟨⟨k + 1, kv, by omega, by go_num, QE.out, Q8.out, Q9.out⟩, by simp [intOf]; try omega⟩
    · obtain rfl : k = 2 := by omega
      go_wp2_with (go_at_call 11; refine (known_any _).mono ?_; rintro e w' ⟨rfl, hb'⟩)
      go_ret
      exact ⟨rfl, hb.trans (hb'.mono hsize)⟩

end Go.Proofs.Ytfkjlaepknhicaa
