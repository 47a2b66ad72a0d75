
/-
  Chapter 12: the fixed example.
-/
import Derived.Test.YteccphcophjhpaaLaw12A
namespace Go.Proofs.Yteccphcophjhpaa
open Go.RowKit

theorem RdT.two_at (w : World) (g : Nat) (hg : w.heap.size = g) (x y : Tk) (t : TypeId) : RdT (w.alloc (.cells #[.int .i64 x.k, .string x.t, .int .i64 x.d, .int .i64 y.k, .string y.t, .int .i64 y.d] t)) (.slice (some ⟨g, 0, none⟩) 2 2) [x, y] := by
  subst hg
  refine ⟨some ⟨w.heap.size, 0, none⟩, 2, rfl, by simp, (fun h => by cases h), fun _ => ⟨w.heap.size, 0, rfl, by simp, fun i z j u hi hj => ?_⟩⟩
  have hi2 : i < 2 := by
    have := (List.getElem?_eq_some_iff.1 hi).1
    simpa using this
  have hj3 : j < 3 := (List.getElem?_eq_some_iff.1 hj).1
  have hb : (w.alloc (.cells #[.int .i64 x.k, .string x.t, .int .i64 x.d, .int .i64 y.k, .string y.t, .int .i64 y.d] t)).heap[w.heap.size]? = some (.cells #[.int .i64 x.k, .string x.t, .int .i64 x.d, .int .i64 y.k, .string y.t, .int .i64 y.d] t) := Array.getElem?_push_size
  rw [Nat.zero_add, cell_of_row _ _ _ _ _ _ hb]
  rcases (show i = 0 ∨ i = 1 by omega) with rfl | rfl
  · simp at hi
    subst hi
    rcases (show j = 0 ∨ j = 1 ∨ j = 2 by omega) with rfl | rfl | rfl <;> exact hj
  · simp at hi
    subst hi
    rcases (show j = 0 ∨ j = 1 ∨ j = 2 by omega) with rfl | rfl | rfl <;> exact hj

theorem td_small : (∀ x ∈ tA, TkD x) ∧ (∀ x ∈ tB, TkD x) ∧ TkD kT ∧ TkD kX := by
  refine ⟨fun x hx => ?_, fun x hx => ?_, ?_, ?_⟩
  · simp [tA] at hx
    rcases hx with rfl | rfl | rfl <;> exact ⟨by unfold maxLen; decide, by decide, by decide⟩
  · simp [tB] at hx
    rcases hx with rfl | rfl | rfl <;> exact ⟨by unfold maxLen; decide, by decide, by decide⟩
  · exact ⟨by unfold maxLen; decide, by decide, by decide⟩
  · exact ⟨by unfold maxLen; decide, by decide, by decide⟩

set_option maxHeartbeats 2000000 in
theorem known12_any (w : World) : Calls Try.prog 12 #[] w fun e w' => e = .returned (.bool true) ∧ Below w.heap.size w w' := by
  have ca := fun (v : Value) (w : World) (h : RdT w v [⟨1, kA, 0⟩]) => rtokens_any [⟨1, kA, 0⟩] v w h (by simp) (by decide)
  rw [tokens_A] at ca
  have CA := Lib.hid ca
  have cb := fun (v : Value) (w : World) (h : RdT w v [⟨1, kB, 0⟩]) => rtokens_any [⟨1, kB, 0⟩] v w h (by simp) (by decide)
  rw [tokens_B] at cb
  have CB := Lib.hid cb
  obtain ⟨d1, d2, d3, d4⟩ := td_small
  have c1 := fun (v u : Value) (w : World) (h : RdT w v tA) (h' : RdT w u tB) => dist_any tA tB v u w h h' (by decide) (by decide) d1 d2
  rw [dist_AB] at c1
  have c2 := fun (v u : Value) (w : World) (h : RdT w v [kT, kX]) (h' : RdT w u [kX, kT]) => dist_any [kT, kX] [kX, kT] v u w h h' (by decide) (by decide) (by simp [d3, d4]) (by simp [d3, d4])
  rw [dist_TX] at c2
  have c3 := fun (v u : Value) (w : World) (h : RdT w v [kT, kX]) (h' : RdT w u [kX]) => dist_any [kT, kX] [kX] v u w h h' (by decide) (by decide) (by simp [d3, d4]) (by simp [d4])
  rw [dist_TX1] at c3
  have C1 := Lib.hid c1
  have C2 := Lib.hid c2
  have C3 := Lib.hid c3
  clear ca cb c1 c2 c3 d1 d2 d3 d4
  go_enter Try.func12, Try.ntmps12
  have B0 := Lib.hid (Below.refl w.heap.size w)
  have z0 : w.heap.size ≤ w.heap.size := Nat.le_refl _
  go_wp2_with fail
  have B1 := Lib.hid (B0.out.trans (Below.mono ((Below.refl w.heap.size w).alloc (Nat.le_refl _) (.cells (tkC ⟨1, kA, 0⟩).toArray 58)) z0))
  have z1 := B1.out.size
  clear B0
  have RP_1 := Lib.hid (RdT.one_at w _ rfl ⟨1, kA, 0⟩ 58)
  refine (CA.out _ _ (by exact RP_1.out)).mono ?_
  rintro e w2 ⟨va, rfl, hown, hb⟩
  have Ra_2 := Lib.hid (OwnE.rd tkC_three hown)
  obtain ⟨Aa, ca, hv⟩ := own_shape hown
  subst hv
  have B2 := Lib.hid (B1.out.trans (Below.mono (hb) z1))
  have z2 := B2.out.size
  clear B1 RP_1
  clear hown hb
  go_wp2_with fail
  have B3 := Lib.hid (B2.out.trans (Below.mono ((Below.refl w2.heap.size w2).alloc (Nat.le_refl _) (.cells (tkC ⟨1, kB, 0⟩).toArray 58)) z2))
  have z3 := B3.out.size
  have Ra_3 := Lib.hid (RdE.below Ra_2.out ((Below.refl w2.heap.size w2).alloc (Nat.le_refl _) (.cells (tkC ⟨1, kB, 0⟩).toArray 58)) (Nat.le_refl _))
  clear B2 Ra_2
  have RQ_3 := Lib.hid (RdT.one_at w2 _ rfl ⟨1, kB, 0⟩ 58)
  refine (CB.out _ _ (by exact RQ_3.out)).mono ?_
  rintro e w4 ⟨vb, rfl, hown, hb⟩
  have Rb_4 := Lib.hid (OwnE.rd tkC_three hown)
  obtain ⟨Ab, cb, hv⟩ := own_shape hown
  subst hv
  have B4 := Lib.hid (B3.out.trans (Below.mono (hb) z3))
  have z4 := B4.out.size
  have Ra_4 := Lib.hid (RdE.below Ra_3.out (hb) (Nat.le_refl _))
  clear B3 Ra_3 RQ_3
  clear hown hb
  go_wp2_with fail
  have B5 := Lib.hid (B4.out.trans (Below.mono ((Below.refl w4.heap.size w4).alloc (Nat.le_refl _) (.cells (tkC kT).toArray 23)) z4))
  have z5 := B5.out.size
  have Ra_5 := Lib.hid (RdE.below Ra_4.out ((Below.refl w4.heap.size w4).alloc (Nat.le_refl _) (.cells (tkC kT).toArray 23)) (Nat.le_refl _))
  have Rb_5 := Lib.hid (RdE.below Rb_4.out ((Below.refl w4.heap.size w4).alloc (Nat.le_refl _) (.cells (tkC kT).toArray 23)) (Nat.le_refl _))
  clear B4 Ra_4 Rb_4
  have B6 := Lib.hid (B5.out.trans (Below.mono ((Below.refl (w4.alloc (.cells (tkC kT).toArray 23)).heap.size (w4.alloc (.cells (tkC kT).toArray 23))).alloc (Nat.le_refl _) (.cells (tkC kX).toArray 23)) z5))
  have z6 := B6.out.size
  have Ra_6 := Lib.hid (RdE.below Ra_5.out ((Below.refl (w4.alloc (.cells (tkC kT).toArray 23)).heap.size (w4.alloc (.cells (tkC kT).toArray 23))).alloc (Nat.le_refl _) (.cells (tkC kX).toArray 23)) (Nat.le_refl _))
  have Rb_6 := Lib.hid (RdE.below Rb_5.out ((Below.refl (w4.alloc (.cells (tkC kT).toArray 23)).heap.size (w4.alloc (.cells (tkC kT).toArray 23))).alloc (Nat.le_refl _) (.cells (tkC kX).toArray 23)) (Nat.le_refl _))
  clear B5 Ra_5 Rb_5
  have T1 : Hid ((((w4.alloc (.cells (tkC kT).toArray 23)).alloc (.cells (tkC kX).toArray 23))).heap[w4.heap.size]? = some (.cells #[.int .i64 2, .string ⟨#[98]⟩, .int .i64 1] 23)) := (Below.heap_alloc _ _ _ (by simp)).trans Array.getElem?_push_size
  have hs1 : (w4.alloc (.cells (tkC kT).toArray 23)).heap.size = w4.heap.size + 1 := by simp
  have X1 : Hid ((((w4.alloc (.cells (tkC kT).toArray 23)).alloc (.cells (tkC kX).toArray 23))).heap[w4.heap.size + 1]? = some (.cells #[.int .i64 6, .string ⟨#[120]⟩, .int .i64 0] 23)) := by rw [← hs1]; exact Array.getElem?_push_size
  clear hs1
  have hl1 : w4.heap.size + 1 < (((w4.alloc (.cells (tkC kT).toArray 23)).alloc (.cells (tkC kX).toArray 23))).heap.size := by simp
  refine (C1.out _ _ _ (by exact Ra_6.out) (by exact Rb_6.out)).mono ?_
  rintro e w7 ⟨rfl, hb⟩
  have hlx : w4.heap.size + 1 < w7.heap.size := Nat.lt_of_lt_of_le (by exact hl1) hb.size
  have hly : w4.heap.size < w7.heap.size := by omega
  have T7 := Lib.hid ((hb.block w4.heap.size (by exact Nat.lt_trans (Nat.lt_succ_self _) hl1)).trans T1.out)
  have X7 := Lib.hid ((hb.block (w4.heap.size + 1) (by exact hl1)).trans X1.out)
  clear T1 X1 hl1
  have B7 := Lib.hid (B6.out.trans (Below.mono (hb) z6))
  have z7 := B7.out.size
  clear B6 Ra_6 Rb_6
  clear hb
  obtain ⟨p0, p1, p2⟩ := tbox T7.out
  obtain ⟨r0, r1, r2⟩ := tbox X7.out
  go_wp2_with fail
  clear p0 p1 p2 r0 r1 r2
  have B8 := Lib.hid (B7.out.trans (Below.mono ((Below.refl w7.heap.size w7).alloc (Nat.le_refl _) (.cells #[.int .i64 2, .string ⟨#[98]⟩, .int .i64 1, .int .i64 6, .string ⟨#[120]⟩, .int .i64 0] 23)) z7))
  have z8 := B8.out.size
  clear B7
  have Rc_8 := Lib.hid (RdT.two_at w7 _ rfl kT kX 23)
  have B9 := Lib.hid (B8.out.trans (Below.mono ((Below.refl (w7.alloc (.cells #[.int .i64 2, .string ⟨#[98]⟩, .int .i64 1, .int .i64 6, .string ⟨#[120]⟩, .int .i64 0] 23)).heap.size (w7.alloc (.cells #[.int .i64 2, .string ⟨#[98]⟩, .int .i64 1, .int .i64 6, .string ⟨#[120]⟩, .int .i64 0] 23))).alloc (Nat.le_refl _) (.cells #[.int .i64 6, .string ⟨#[120]⟩, .int .i64 0, .int .i64 2, .string ⟨#[98]⟩, .int .i64 1] 23)) z8))
  have z9 := B9.out.size
  have Rc_9 := Lib.hid (RdE.below Rc_8.out ((Below.refl (w7.alloc (.cells #[.int .i64 2, .string ⟨#[98]⟩, .int .i64 1, .int .i64 6, .string ⟨#[120]⟩, .int .i64 0] 23)).heap.size (w7.alloc (.cells #[.int .i64 2, .string ⟨#[98]⟩, .int .i64 1, .int .i64 6, .string ⟨#[120]⟩, .int .i64 0] 23))).alloc (Nat.le_refl _) (.cells #[.int .i64 6, .string ⟨#[120]⟩, .int .i64 0, .int .i64 2, .string ⟨#[98]⟩, .int .i64 1] 23)) (Nat.le_refl _))
  clear B8 Rc_8
  have Rd_9 := Lib.hid (RdT.two_at (w7.alloc (.cells #[.int .i64 2, .string ⟨#[98]⟩, .int .i64 1, .int .i64 6, .string ⟨#[120]⟩, .int .i64 0] 23)) (w7.heap.size + 1) (by simp) kX kT 23)
  have T1 := Lib.hid ((Below.heap_alloc _ _ _ (by simp; omega)).trans ((Below.heap_alloc _ _ _ (by omega)).trans T7.out) : (((w7.alloc (.cells #[.int .i64 2, .string ⟨#[98]⟩, .int .i64 1, .int .i64 6, .string ⟨#[120]⟩, .int .i64 0] 23)).alloc (.cells #[.int .i64 6, .string ⟨#[120]⟩, .int .i64 0, .int .i64 2, .string ⟨#[98]⟩, .int .i64 1] 23))).heap[w4.heap.size]? = _)
  have X1 := Lib.hid ((Below.heap_alloc _ _ _ (by simp; omega)).trans ((Below.heap_alloc _ _ _ (by omega)).trans X7.out) : (((w7.alloc (.cells #[.int .i64 2, .string ⟨#[98]⟩, .int .i64 1, .int .i64 6, .string ⟨#[120]⟩, .int .i64 0] 23)).alloc (.cells #[.int .i64 6, .string ⟨#[120]⟩, .int .i64 0, .int .i64 2, .string ⟨#[98]⟩, .int .i64 1] 23))).heap[w4.heap.size + 1]? = _)
  have hl1 : w4.heap.size + 1 < (((w7.alloc (.cells #[.int .i64 2, .string ⟨#[98]⟩, .int .i64 1, .int .i64 6, .string ⟨#[120]⟩, .int .i64 0] 23)).alloc (.cells #[.int .i64 6, .string ⟨#[120]⟩, .int .i64 0, .int .i64 2, .string ⟨#[98]⟩, .int .i64 1] 23))).heap.size := by simp; omega
  refine (C2.out _ _ _ (by exact Rc_9.out) (by exact Rd_9.out)).mono ?_
  rintro e w10 ⟨rfl, hb⟩
  have hlx : w4.heap.size + 1 < w10.heap.size := Nat.lt_of_lt_of_le (by exact hl1) hb.size
  have hly : w4.heap.size < w10.heap.size := by omega
  have T10 := Lib.hid ((hb.block w4.heap.size (by exact Nat.lt_trans (Nat.lt_succ_self _) hl1)).trans T1.out)
  have X10 := Lib.hid ((hb.block (w4.heap.size + 1) (by exact hl1)).trans X1.out)
  clear T1 X1 hl1
  have B10 := Lib.hid (B9.out.trans (Below.mono (hb) z9))
  have z10 := B10.out.size
  clear B9 Rc_9 Rd_9
  clear hb
  obtain ⟨p0, p1, p2⟩ := tbox T10.out
  obtain ⟨r0, r1, r2⟩ := tbox X10.out
  go_wp2_with fail
  clear p0 p1 p2 r0 r1 r2
  have B11 := Lib.hid (B10.out.trans (Below.mono ((Below.refl w10.heap.size w10).alloc (Nat.le_refl _) (.cells #[.int .i64 2, .string ⟨#[98]⟩, .int .i64 1, .int .i64 6, .string ⟨#[120]⟩, .int .i64 0] 23)) z10))
  have z11 := B11.out.size
  clear B10
  have Rc_11 := Lib.hid (RdT.two_at w10 _ rfl kT kX 23)
  have B12 := Lib.hid (B11.out.trans (Below.mono ((Below.refl (w10.alloc (.cells #[.int .i64 2, .string ⟨#[98]⟩, .int .i64 1, .int .i64 6, .string ⟨#[120]⟩, .int .i64 0] 23)).heap.size (w10.alloc (.cells #[.int .i64 2, .string ⟨#[98]⟩, .int .i64 1, .int .i64 6, .string ⟨#[120]⟩, .int .i64 0] 23))).alloc (Nat.le_refl _) (.cells #[.int .i64 6, .string ⟨#[120]⟩, .int .i64 0] 23)) z11))
  have z12 := B12.out.size
  have Rc_12 := Lib.hid (RdE.below Rc_11.out ((Below.refl (w10.alloc (.cells #[.int .i64 2, .string ⟨#[98]⟩, .int .i64 1, .int .i64 6, .string ⟨#[120]⟩, .int .i64 0] 23)).heap.size (w10.alloc (.cells #[.int .i64 2, .string ⟨#[98]⟩, .int .i64 1, .int .i64 6, .string ⟨#[120]⟩, .int .i64 0] 23))).alloc (Nat.le_refl _) (.cells #[.int .i64 6, .string ⟨#[120]⟩, .int .i64 0] 23)) (Nat.le_refl _))
  clear B11 Rc_11
  have Rd_12 := Lib.hid (RdT.one_at (w10.alloc (.cells #[.int .i64 2, .string ⟨#[98]⟩, .int .i64 1, .int .i64 6, .string ⟨#[120]⟩, .int .i64 0] 23)) (w10.heap.size + 1) (by simp) kX 23)
  refine (C3.out _ _ _ (by exact Rc_12.out) (by exact Rd_12.out)).mono ?_
  rintro e w13 ⟨rfl, hb⟩
  have B13 := Lib.hid (B12.out.trans (Below.mono (hb) z12))
  have z13 := B13.out.size
  clear B12 Rc_12 Rd_12
  clear hb
  go_wp2_with fail
  go_ret
  exact ⟨rfl, B13.out⟩

end Go.Proofs.Yteccphcophjhpaa
