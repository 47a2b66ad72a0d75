
/-
  How often a token occurs, and the tags that one list has more than the other: the reference's walks.
-/
import Derived.Test.YteccphcophjhpaaMathAlign
import Derived.Test.YteccphcophjhpaaSurB
import Derived.Test.YteccphcophjhpaaMemB
namespace Go.Proofs.Yteccphcophjhpaa
open Go.RowKit

theorem rsame'_any (x y : Tk) (w : World) : Calls Try.prog 19 #[.agg #[.int .i64 x.k, .string x.t, .int .i64 x.d], .agg #[.int .i64 y.k, .string y.t, .int .i64 y.d]] w fun e w' => e = .returned (.bool (sameB x y)) ∧ Below w.heap.size w w' := rsame_any _ _ _ _ _ _ w

set_option maxHeartbeats 4000000 in
theorem times_any (l : List Tk) (y : Tk) (v : Value) (w : World) (hf : RdT w v l) (hl : l.length ≤ 1000000) :
    Calls Try.prog 43 #[v, .agg #[.int .i64 y.k, .string y.t, .int .i64 y.d]] w fun e w' => e = .returned (.int .i64 (timesN l y : Nat)) ∧ Below w.heap.size w w' := by
  obtain ⟨A, c, rfl, _, _⟩ := hf.shape
  have HF := Lib.hid hf
  clear hf
  go_enter Try.func43, Try.ntmps43
  go_wp2_with fail
  go_loopw [5, 9] (fun nv i wr => ∃ k : Nat, k ≤ l.length ∧ i = .int .i64 k ∧ nv = .int .i64 (timesN (l.take k) y : Nat) ∧ Hid (Below w.heap.size w wr) ∧ Hid (wr.heap[w.heap.size]? = some (.cells #[.int .i64 y.k, .string y.t, .int .i64 y.d] 23))) (fun _ i _ => l.length - (intOf i).toNat)
  case atStart => exact ⟨0, by omega, rfl, rfl, (Below.refl _ _).alloc (Nat.le_refl _) _, Array.getElem?_push_size⟩
  case round =>
    obtain ⟨k, hk, rfl, rfl, HB, HY⟩ := hrel
    have hsz := HB.out.size
    have ly := (Array.getElem?_eq_some_iff.1 HY.out).1
    have hbd := timesN_le (l.take k) y
    rw [List.length_take] at hbd
    by_cases hkl : k < l.length
    · obtain ⟨bb, ob, rfl, hbl, q1, q2, q3⟩ := RdT.at_ HF.out k hkl
      rw [← HB.out.cell (p := ⟨bb, ob + k * 3, none⟩) hbl] at q1
      rw [← HB.out.cell (p := ⟨bb, ob + k * 3 + 1, none⟩) hbl] at q2
      rw [← HB.out.cell (p := ⟨bb, ob + k * 3 + 2, none⟩) hbl] at q3
      have HT := Lib.hid (timesN_take l y k hkl)
      have hblw : bb < wr.heap.size := by omega
      have e4 : (k : Int) < (l.length : Int) := by omega
      obtain ⟨y0, y1, y2⟩ := tbox HY.out
      generalize l[k] = x at q1 q2 q3 HT
      obtain ⟨xk, xt, xd⟩ := x
      obtain ⟨yk, yt, yd⟩ := y
      simp only at q1 q2 q3 y0 y1 y2
      generalize timesN (l.take k) ⟨yk, yt, yd⟩ = tn at HT hbd
      by_cases hs : sameB ⟨xk, xt, xd⟩ ⟨yk, yt, yd⟩ = true
      · have HS := Lib.hid hs
        go_wp2_with fail
        have KP : Hid (∀ X X' : World, Below X.heap.size X X' → (X.cell? ⟨bb, ob + k * 3, none⟩ = some (.int .i64 xk) ∧ X.cell? ⟨bb, ob + k * 3 + 1, none⟩ = some (.string xt) ∧ X.cell? ⟨bb, ob + k * 3 + 2, none⟩ = some (.int .i64 xd) ∧ X.cell? ⟨w.heap.size, 0, none⟩ = some (.int .i64 yk) ∧ X.cell? ⟨w.heap.size, 1, none⟩ = some (.string yt) ∧ X.cell? ⟨w.heap.size, 2, none⟩ = some (.int .i64 yd) ∧ Hid (Below wr.heap.size wr X ∧ bb < wr.heap.size ∧ w.heap.size < wr.heap.size)) → (X'.cell? ⟨bb, ob + k * 3, none⟩ = some (.int .i64 xk) ∧ X'.cell? ⟨bb, ob + k * 3 + 1, none⟩ = some (.string xt) ∧ X'.cell? ⟨bb, ob + k * 3 + 2, none⟩ = some (.int .i64 xd) ∧ X'.cell? ⟨w.heap.size, 0, none⟩ = some (.int .i64 yk) ∧ X'.cell? ⟨w.heap.size, 1, none⟩ = some (.string yt) ∧ X'.cell? ⟨w.heap.size, 2, none⟩ = some (.int .i64 yd) ∧ Hid (Below wr.heap.size wr X' ∧ bb < wr.heap.size ∧ w.heap.size < wr.heap.size))) := by
          rintro X X' hb ⟨q0, q1, q2, q3, q4, q5, hH⟩
          obtain ⟨hB, l0, l1⟩ := hH.out
          have hsz := hB.size
          exact ⟨(hb.cell (p := ⟨bb, ob + k * 3, none⟩) (Nat.lt_of_lt_of_le l0 hsz)).trans q0, (hb.cell (p := ⟨bb, ob + k * 3 + 1, none⟩) (Nat.lt_of_lt_of_le l0 hsz)).trans q1, (hb.cell (p := ⟨bb, ob + k * 3 + 2, none⟩) (Nat.lt_of_lt_of_le l0 hsz)).trans q2, (hb.cell (p := ⟨w.heap.size, 0, none⟩) (Nat.lt_of_lt_of_le l1 hsz)).trans q3, (hb.cell (p := ⟨w.heap.size, 1, none⟩) (Nat.lt_of_lt_of_le l1 hsz)).trans q4, (hb.cell (p := ⟨w.heap.size, 2, none⟩) (Nat.lt_of_lt_of_le l1 hsz)).trans q5, ⟨hB.trans (hb.mono hsz), l0, l1⟩⟩
        have KD : Hid (∀ X : World, (X.cell? ⟨bb, ob + k * 3, none⟩ = some (.int .i64 xk) ∧ X.cell? ⟨bb, ob + k * 3 + 1, none⟩ = some (.string xt) ∧ X.cell? ⟨bb, ob + k * 3 + 2, none⟩ = some (.int .i64 xd) ∧ X.cell? ⟨w.heap.size, 0, none⟩ = some (.int .i64 yk) ∧ X.cell? ⟨w.heap.size, 1, none⟩ = some (.string yt) ∧ X.cell? ⟨w.heap.size, 2, none⟩ = some (.int .i64 yd) ∧ Hid (Below wr.heap.size wr X ∧ bb < wr.heap.size ∧ w.heap.size < wr.heap.size)) → (X.drew.cell? ⟨bb, ob + k * 3, none⟩ = some (.int .i64 xk) ∧ X.drew.cell? ⟨bb, ob + k * 3 + 1, none⟩ = some (.string xt) ∧ X.drew.cell? ⟨bb, ob + k * 3 + 2, none⟩ = some (.int .i64 xd) ∧ X.drew.cell? ⟨w.heap.size, 0, none⟩ = some (.int .i64 yk) ∧ X.drew.cell? ⟨w.heap.size, 1, none⟩ = some (.string yt) ∧ X.drew.cell? ⟨w.heap.size, 2, none⟩ = some (.int .i64 yd) ∧ Hid (Below wr.heap.size wr X.drew ∧ bb < wr.heap.size ∧ w.heap.size < wr.heap.size))) := by
          rintro X ⟨q0, q1, q2, q3, q4, q5, hH⟩
          exact ⟨q0, q1, q2, q3, q4, q5, ⟨below_drewN hH.out.1 1, hH.out.2⟩⟩
        have K0 : Hid (wr.cell? ⟨bb, ob + k * 3, none⟩ = some (.int .i64 xk) ∧ wr.cell? ⟨bb, ob + k * 3 + 1, none⟩ = some (.string xt) ∧ wr.cell? ⟨bb, ob + k * 3 + 2, none⟩ = some (.int .i64 xd) ∧ wr.cell? ⟨w.heap.size, 0, none⟩ = some (.int .i64 yk) ∧ wr.cell? ⟨w.heap.size, 1, none⟩ = some (.string yt) ∧ wr.cell? ⟨w.heap.size, 2, none⟩ = some (.int .i64 yd) ∧ Hid (Below wr.heap.size wr wr ∧ bb < wr.heap.size ∧ w.heap.size < wr.heap.size)) := ⟨(q1), (q2), (q3), (y0), (y1), (y2), ⟨Below.refl _ _, (hblw), (ly)⟩⟩
        go_region_held3 (fun w' => w'.cell? ⟨bb, ob + k * 3, none⟩ = some (.int .i64 xk) ∧ w'.cell? ⟨bb, ob + k * 3 + 1, none⟩ = some (.string xt) ∧ w'.cell? ⟨bb, ob + k * 3 + 2, none⟩ = some (.int .i64 xd) ∧ w'.cell? ⟨w.heap.size, 0, none⟩ = some (.int .i64 yk) ∧ w'.cell? ⟨w.heap.size, 1, none⟩ = some (.string yt) ∧ w'.cell? ⟨w.heap.size, 2, none⟩ = some (.int .i64 yd) ∧ Hid (Below wr.heap.size wr w' ∧ bb < wr.heap.size ∧ w.heap.size < wr.heap.size))
          (first | exact K0.out | exact KD.out _ K0.out | assumption | exact KP.out _ _ hb' (KD.out _ K0.out) | (refine KP.out _ _ hb' ?_; with_reducible_and_instances assumption) | (refine KD.out _ ?_; with_reducible_and_instances assumption))
          (first
            | (go_at_call 19; refine (rsame'_any ⟨xk, xt, xd⟩ ⟨yk, yt, yd⟩ _).mono ?_; rintro e w' ⟨rfl, hb'⟩))
        rename_i hh
        obtain ⟨t0, t1, t2, t3, t4, t5, tH⟩ := hh
        clear KP KD K0
        have HW' := Lib.hid (HB.out.trans (tH.out.1.mono hsz))
        have HY' := Lib.hid ((tH.out.1.block _ ly).trans HY.out)
        clear t0 t1 t2 t3 t4 t5 tH
        go_wp2_with fail
        refine ⟨⟨k + 1, by omega, by go_num, ?_, HW'.out, HY'.out⟩, by simp [intOf]; try omega⟩
        rw [HT.out, if_pos HS.out]
        go_num
      · have hs' : sameB ⟨xk, xt, xd⟩ ⟨yk, yt, yd⟩ = false := by simpa using hs
        have HS := Lib.hid hs
        clear hs
        go_wp2_with fail
        have KP : Hid (∀ X X' : World, Below X.heap.size X X' → (X.cell? ⟨bb, ob + k * 3, none⟩ = some (.int .i64 xk) ∧ X.cell? ⟨bb, ob + k * 3 + 1, none⟩ = some (.string xt) ∧ X.cell? ⟨bb, ob + k * 3 + 2, none⟩ = some (.int .i64 xd) ∧ X.cell? ⟨w.heap.size, 0, none⟩ = some (.int .i64 yk) ∧ X.cell? ⟨w.heap.size, 1, none⟩ = some (.string yt) ∧ X.cell? ⟨w.heap.size, 2, none⟩ = some (.int .i64 yd) ∧ Hid (Below wr.heap.size wr X ∧ bb < wr.heap.size ∧ w.heap.size < wr.heap.size)) → (X'.cell? ⟨bb, ob + k * 3, none⟩ = some (.int .i64 xk) ∧ X'.cell? ⟨bb, ob + k * 3 + 1, none⟩ = some (.string xt) ∧ X'.cell? ⟨bb, ob + k * 3 + 2, none⟩ = some (.int .i64 xd) ∧ X'.cell? ⟨w.heap.size, 0, none⟩ = some (.int .i64 yk) ∧ X'.cell? ⟨w.heap.size, 1, none⟩ = some (.string yt) ∧ X'.cell? ⟨w.heap.size, 2, none⟩ = some (.int .i64 yd) ∧ Hid (Below wr.heap.size wr X' ∧ bb < wr.heap.size ∧ w.heap.size < wr.heap.size))) := by
          rintro X X' hb ⟨q0, q1, q2, q3, q4, q5, hH⟩
          obtain ⟨hB, l0, l1⟩ := hH.out
          have hsz := hB.size
          exact ⟨(hb.cell (p := ⟨bb, ob + k * 3, none⟩) (Nat.lt_of_lt_of_le l0 hsz)).trans q0, (hb.cell (p := ⟨bb, ob + k * 3 + 1, none⟩) (Nat.lt_of_lt_of_le l0 hsz)).trans q1, (hb.cell (p := ⟨bb, ob + k * 3 + 2, none⟩) (Nat.lt_of_lt_of_le l0 hsz)).trans q2, (hb.cell (p := ⟨w.heap.size, 0, none⟩) (Nat.lt_of_lt_of_le l1 hsz)).trans q3, (hb.cell (p := ⟨w.heap.size, 1, none⟩) (Nat.lt_of_lt_of_le l1 hsz)).trans q4, (hb.cell (p := ⟨w.heap.size, 2, none⟩) (Nat.lt_of_lt_of_le l1 hsz)).trans q5, ⟨hB.trans (hb.mono hsz), l0, l1⟩⟩
        have KD : Hid (∀ X : World, (X.cell? ⟨bb, ob + k * 3, none⟩ = some (.int .i64 xk) ∧ X.cell? ⟨bb, ob + k * 3 + 1, none⟩ = some (.string xt) ∧ X.cell? ⟨bb, ob + k * 3 + 2, none⟩ = some (.int .i64 xd) ∧ X.cell? ⟨w.heap.size, 0, none⟩ = some (.int .i64 yk) ∧ X.cell? ⟨w.heap.size, 1, none⟩ = some (.string yt) ∧ X.cell? ⟨w.heap.size, 2, none⟩ = some (.int .i64 yd) ∧ Hid (Below wr.heap.size wr X ∧ bb < wr.heap.size ∧ w.heap.size < wr.heap.size)) → (X.drew.cell? ⟨bb, ob + k * 3, none⟩ = some (.int .i64 xk) ∧ X.drew.cell? ⟨bb, ob + k * 3 + 1, none⟩ = some (.string xt) ∧ X.drew.cell? ⟨bb, ob + k * 3 + 2, none⟩ = some (.int .i64 xd) ∧ X.drew.cell? ⟨w.heap.size, 0, none⟩ = some (.int .i64 yk) ∧ X.drew.cell? ⟨w.heap.size, 1, none⟩ = some (.string yt) ∧ X.drew.cell? ⟨w.heap.size, 2, none⟩ = some (.int .i64 yd) ∧ Hid (Below wr.heap.size wr X.drew ∧ bb < wr.heap.size ∧ w.heap.size < wr.heap.size))) := by
          rintro X ⟨q0, q1, q2, q3, q4, q5, hH⟩
          exact ⟨q0, q1, q2, q3, q4, q5, ⟨below_drewN hH.out.1 1, hH.out.2⟩⟩
        have K0 : Hid (wr.cell? ⟨bb, ob + k * 3, none⟩ = some (.int .i64 xk) ∧ wr.cell? ⟨bb, ob + k * 3 + 1, none⟩ = some (.string xt) ∧ wr.cell? ⟨bb, ob + k * 3 + 2, none⟩ = some (.int .i64 xd) ∧ wr.cell? ⟨w.heap.size, 0, none⟩ = some (.int .i64 yk) ∧ wr.cell? ⟨w.heap.size, 1, none⟩ = some (.string yt) ∧ wr.cell? ⟨w.heap.size, 2, none⟩ = some (.int .i64 yd) ∧ Hid (Below wr.heap.size wr wr ∧ bb < wr.heap.size ∧ w.heap.size < wr.heap.size)) := ⟨(q1), (q2), (q3), (y0), (y1), (y2), ⟨Below.refl _ _, (hblw), (ly)⟩⟩
        go_region_held3 (fun w' => w'.cell? ⟨bb, ob + k * 3, none⟩ = some (.int .i64 xk) ∧ w'.cell? ⟨bb, ob + k * 3 + 1, none⟩ = some (.string xt) ∧ w'.cell? ⟨bb, ob + k * 3 + 2, none⟩ = some (.int .i64 xd) ∧ w'.cell? ⟨w.heap.size, 0, none⟩ = some (.int .i64 yk) ∧ w'.cell? ⟨w.heap.size, 1, none⟩ = some (.string yt) ∧ w'.cell? ⟨w.heap.size, 2, none⟩ = some (.int .i64 yd) ∧ Hid (Below wr.heap.size wr w' ∧ bb < wr.heap.size ∧ w.heap.size < wr.heap.size))
          (first | exact K0.out | exact KD.out _ K0.out | assumption | exact KP.out _ _ hb' (KD.out _ K0.out) | (refine KP.out _ _ hb' ?_; with_reducible_and_instances assumption) | (refine KD.out _ ?_; with_reducible_and_instances assumption))
          (first
            | (go_at_call 19; refine (rsame'_any ⟨xk, xt, xd⟩ ⟨yk, yt, yd⟩ _).mono ?_; rintro e w' ⟨rfl, hb'⟩))
        rename_i hh
        obtain ⟨t0, t1, t2, t3, t4, t5, tH⟩ := hh
        clear KP KD K0
        have HW' := Lib.hid (HB.out.trans (tH.out.1.mono hsz))
        have HY' := Lib.hid ((tH.out.1.block _ ly).trans HY.out)
        clear t0 t1 t2 t3 t4 t5 tH
        go_wp2_with fail
        refine ⟨⟨k + 1, by omega, by go_num, ?_, HW'.out, HY'.out⟩, by simp [intOf]; try omega⟩
        rw [HT.out, if_neg HS.out]
        go_num
    · obtain rfl : k = l.length := by omega
      rw [List.take_length]
      go_wp2_with fail
      go_ret
      exact ⟨rfl, HB.out⟩

set_option maxHeartbeats 8000000 in
theorem rsurplus_any (a b : List Tk) (va vb : Value) (w : World) (ha : RdT w va a) (hb : RdT w vb b) (hla : a.length ≤ 100000) (hlb : b.length ≤ 100000) :
    Calls Try.prog 44 #[va, vb] w fun e w' => e = .returned (.int .i64 (supI a b)) ∧ Below w.heap.size w w' := by
  obtain ⟨A, c, rfl, _, _⟩ := ha.shape
  obtain ⟨A2, c2, rfl, _, _⟩ := hb.shape
  have HA := Lib.hid ha
  have HB := Lib.hid hb
  have hca := RdE.cap ha
  have hcb := RdE.cap hb
  clear ha hb
  go_enter Try.func44, Try.ntmps44
  go_wp2_with fail
  go_loopw [5, 13] (fun nv i wr => ∃ k : Nat, k ≤ a.length ∧ i = .int .i64 k ∧ nv = .int .i64 (sA a b k) ∧ Hid (Below w.heap.size w wr)) (fun _ i _ => a.length - (intOf i).toNat)
  case atStart => exact ⟨0, by omega, rfl, rfl, Below.refl _ _⟩
  case round =>
    obtain ⟨k, hk, rfl, rfl, HBW⟩ := hrel
    have hsz := HBW.out.size
    by_cases hkl : k < a.length
    · obtain ⟨bb, ob, rfl, hbl, q1, q2, q3⟩ := RdT.at_ HA.out k hkl
      rw [← HBW.out.cell (p := ⟨bb, ob + k * 3, none⟩) hbl] at q1
      rw [← HBW.out.cell (p := ⟨bb, ob + k * 3 + 1, none⟩) hbl] at q2
      rw [← HBW.out.cell (p := ⟨bb, ob + k * 3 + 2, none⟩) hbl] at q3
      have HT := Lib.hid (sA_step a b k hkl)
      have s1 := sA_small a b k hk
      have s2 := sA_small a b (k + 1) (by omega)
      generalize a[k] = x at q1 q2 q3 HT
      obtain ⟨xk, xt, xd⟩ := x
      simp only at q1 q2 q3
      have hl0 : wr.heap.size < (wr.alloc (.cells #[.int .i64 xk, .string xt, .int .i64 xd] 23)).heap.size := by simp
      have HXB : Hid ((wr.alloc (.cells #[.int .i64 xk, .string xt, .int .i64 xd] 23)).heap[wr.heap.size]? = some (.cells #[.int .i64 xk, .string xt, .int .i64 xd] 23)) := Array.getElem?_push_size
      have HBQ := Lib.hid (HBW.out.alloc hsz (.cells #[.int .i64 xk, .string xt, .int .i64 xd] 23))
      have hzq := HBQ.out.size
      have RA := Lib.hid (RdE.below HA.out HBQ.out (Nat.le_refl _))
      have RB := Lib.hid (RdE.below HB.out HBQ.out (Nat.le_refl _))
      have RT := Lib.hid (RdE.take RA.out k hk)
      have ekc : (k : Int) ≤ (c : Int) := by omega
      have ek0 : k ≤ c := by omega
      have t1 := timesN_le a ⟨xk, xt, xd⟩
      have t2 := timesN_le b ⟨xk, xt, xd⟩
      have a1 := sA_small a b a.length (Nat.le_refl _)
      by_cases htag : isTagB ⟨xk, xt, xd⟩ = true
      · by_cases hseen : timesN (a.take k) ⟨xk, xt, xd⟩ = 0
        · have hst := Lib.hid (HT.out.trans (by rw [if_pos ⟨htag, hseen⟩]))
          have hse : ((timesN (a.take k) ⟨xk, xt, xd⟩ : Int) == 0) = true := by simp; omega
          obtain ⟨d, hd⟩ : ∃ d : Int, (timesN a ⟨xk, xt, xd⟩ : Int) - (timesN b ⟨xk, xt, xd⟩ : Int) = d := ⟨_, rfl⟩
          have ew : IntKind.i64.wrap ((timesN a ⟨xk, xt, xd⟩ : Int) - (timesN b ⟨xk, xt, xd⟩ : Int)) = d := by rw [hd, IntKind.wrap_i64]; omega
          have en : IntKind.i64.wrap (-d) = -d := by rw [IntKind.wrap_i64]; omega
          have HAB : Hid (absI ((timesN a ⟨xk, xt, xd⟩ : Int) - (timesN b ⟨xk, xt, xd⟩ : Int)) = max d (-d)) := by show absI _ = _; rw [hd]; rfl
          have hst2 := hst.out
          rw [HAB.out] at hst2
          have es1 : IntKind.i64.wrap (sA a b k + d) = sA a b k + d := by rw [IntKind.wrap_i64]; omega
          have es2 : IntKind.i64.wrap (sA a b k + -d) = sA a b k + -d := by rw [IntKind.wrap_i64]; omega
          have hcs : d < -d ∨ -d < d ∨ d = 0 := by omega
          have HST := Lib.hid hst2
          clear hseen hst2 hst HAB
          go_wp2_with fail
          generalize wr.alloc (.cells #[.int .i64 xk, .string xt, .int .i64 xd] 23) = wq at hl0 HXB HBQ hzq RA RB RT
          obtain ⟨x0, x1, x2⟩ := tbox HXB.out
          have KP : Hid (∀ X X' : World, Below X.heap.size X X' → (X.cell? ⟨wr.heap.size, 0, none⟩ = some (.int .i64 xk) ∧ X.cell? ⟨wr.heap.size, 1, none⟩ = some (.string xt) ∧ X.cell? ⟨wr.heap.size, 2, none⟩ = some (.int .i64 xd) ∧ Hid (Below wq.heap.size wq X ∧ wr.heap.size < wq.heap.size)) → (X'.cell? ⟨wr.heap.size, 0, none⟩ = some (.int .i64 xk) ∧ X'.cell? ⟨wr.heap.size, 1, none⟩ = some (.string xt) ∧ X'.cell? ⟨wr.heap.size, 2, none⟩ = some (.int .i64 xd) ∧ Hid (Below wq.heap.size wq X' ∧ wr.heap.size < wq.heap.size))) := by
            rintro X X' hb ⟨q0, q1, q2, hH⟩
            obtain ⟨hB, l0⟩ := hH.out
            have hsz := hB.size
            exact ⟨(hb.cell (p := ⟨wr.heap.size, 0, none⟩) (Nat.lt_of_lt_of_le l0 hsz)).trans q0, (hb.cell (p := ⟨wr.heap.size, 1, none⟩) (Nat.lt_of_lt_of_le l0 hsz)).trans q1, (hb.cell (p := ⟨wr.heap.size, 2, none⟩) (Nat.lt_of_lt_of_le l0 hsz)).trans q2, ⟨hB.trans (hb.mono hsz), l0⟩⟩
          have KD : Hid (∀ X : World, (X.cell? ⟨wr.heap.size, 0, none⟩ = some (.int .i64 xk) ∧ X.cell? ⟨wr.heap.size, 1, none⟩ = some (.string xt) ∧ X.cell? ⟨wr.heap.size, 2, none⟩ = some (.int .i64 xd) ∧ Hid (Below wq.heap.size wq X ∧ wr.heap.size < wq.heap.size)) → (X.drew.cell? ⟨wr.heap.size, 0, none⟩ = some (.int .i64 xk) ∧ X.drew.cell? ⟨wr.heap.size, 1, none⟩ = some (.string xt) ∧ X.drew.cell? ⟨wr.heap.size, 2, none⟩ = some (.int .i64 xd) ∧ Hid (Below wq.heap.size wq X.drew ∧ wr.heap.size < wq.heap.size))) := by
            rintro X ⟨q0, q1, q2, hH⟩
            exact ⟨q0, q1, q2, ⟨below_drewN hH.out.1 1, hH.out.2⟩⟩
          have KB : Hid (∀ X : World, (X.cell? ⟨wr.heap.size, 0, none⟩ = some (.int .i64 xk) ∧ X.cell? ⟨wr.heap.size, 1, none⟩ = some (.string xt) ∧ X.cell? ⟨wr.heap.size, 2, none⟩ = some (.int .i64 xd) ∧ Hid (Below wq.heap.size wq X ∧ wr.heap.size < wq.heap.size)) → Below wq.heap.size wq X) := fun X h => h.2.2.2.out.1
          have K0 : Hid (wq.cell? ⟨wr.heap.size, 0, none⟩ = some (.int .i64 xk) ∧ wq.cell? ⟨wr.heap.size, 1, none⟩ = some (.string xt) ∧ wq.cell? ⟨wr.heap.size, 2, none⟩ = some (.int .i64 xd) ∧ Hid (Below wq.heap.size wq wq ∧ wr.heap.size < wq.heap.size)) := ⟨(x0), (x1), (x2), ⟨Below.refl _ _, (hl0)⟩⟩
          go_region_held3 (fun w' => w'.cell? ⟨wr.heap.size, 0, none⟩ = some (.int .i64 xk) ∧ w'.cell? ⟨wr.heap.size, 1, none⟩ = some (.string xt) ∧ w'.cell? ⟨wr.heap.size, 2, none⟩ = some (.int .i64 xd) ∧ Hid (Below wq.heap.size wq w' ∧ wr.heap.size < wq.heap.size))
            (first | exact K0.out | exact KD.out _ K0.out | assumption | exact KP.out _ _ hb' (KD.out _ K0.out) | (refine KP.out _ _ hb' ?_; with_reducible_and_instances assumption) | (refine KD.out _ ?_; with_reducible_and_instances assumption))
            (first
              | (go_at_call 20; refine (risTag_any xk xd xt _).mono ?_; rintro e w' ⟨rfl, hb'⟩)
              | (go_at_call 43; (first | (refine (times_any (a.take k) ⟨xk, xt, xd⟩ _ _ (by first | exact RT.out | exact RdE.drew RT.out | exact RdE.below RT.out (KB.out _ (by assumption)) (Nat.le_refl _)) (by first | omega | (rw [List.length_take]; omega))).mono ?_)); rintro e w' ⟨rfl, hb'⟩))
          rename_i hh
          obtain ⟨t0, t1, t2, tH⟩ := hh
          clear KP KD K0 KB
          obtain ⟨wu, rfl⟩ : ∃ wu : World, wu = w' := ⟨_, rfl⟩
          have RA1 := Lib.hid (RdE.below RA.out tH.out.1 (Nat.le_refl _))
          have RB1 := Lib.hid (RdE.below RB.out tH.out.1 (Nat.le_refl _))
          have BW1 := Lib.hid (HBQ.out.trans (tH.out.1.mono hzq))
          have hl1 : wr.heap.size < wu.heap.size := Nat.lt_of_lt_of_le tH.out.2 tH.out.1.size
          have hz1 := BW1.out.size
          go_wp2_with fail
          have KP : Hid (∀ X X' : World, Below X.heap.size X X' → (X.cell? ⟨wr.heap.size, 0, none⟩ = some (.int .i64 xk) ∧ X.cell? ⟨wr.heap.size, 1, none⟩ = some (.string xt) ∧ X.cell? ⟨wr.heap.size, 2, none⟩ = some (.int .i64 xd) ∧ Hid (Below wu.heap.size wu X ∧ wr.heap.size < wu.heap.size)) → (X'.cell? ⟨wr.heap.size, 0, none⟩ = some (.int .i64 xk) ∧ X'.cell? ⟨wr.heap.size, 1, none⟩ = some (.string xt) ∧ X'.cell? ⟨wr.heap.size, 2, none⟩ = some (.int .i64 xd) ∧ Hid (Below wu.heap.size wu X' ∧ wr.heap.size < wu.heap.size))) := by
            rintro X X' hb ⟨q0, q1, q2, hH⟩
            obtain ⟨hB, l0⟩ := hH.out
            have hsz := hB.size
            exact ⟨(hb.cell (p := ⟨wr.heap.size, 0, none⟩) (Nat.lt_of_lt_of_le l0 hsz)).trans q0, (hb.cell (p := ⟨wr.heap.size, 1, none⟩) (Nat.lt_of_lt_of_le l0 hsz)).trans q1, (hb.cell (p := ⟨wr.heap.size, 2, none⟩) (Nat.lt_of_lt_of_le l0 hsz)).trans q2, ⟨hB.trans (hb.mono hsz), l0⟩⟩
          have KD : Hid (∀ X : World, (X.cell? ⟨wr.heap.size, 0, none⟩ = some (.int .i64 xk) ∧ X.cell? ⟨wr.heap.size, 1, none⟩ = some (.string xt) ∧ X.cell? ⟨wr.heap.size, 2, none⟩ = some (.int .i64 xd) ∧ Hid (Below wu.heap.size wu X ∧ wr.heap.size < wu.heap.size)) → (X.drew.cell? ⟨wr.heap.size, 0, none⟩ = some (.int .i64 xk) ∧ X.drew.cell? ⟨wr.heap.size, 1, none⟩ = some (.string xt) ∧ X.drew.cell? ⟨wr.heap.size, 2, none⟩ = some (.int .i64 xd) ∧ Hid (Below wu.heap.size wu X.drew ∧ wr.heap.size < wu.heap.size))) := by
            rintro X ⟨q0, q1, q2, hH⟩
            exact ⟨q0, q1, q2, ⟨below_drewN hH.out.1 1, hH.out.2⟩⟩
          have KB : Hid (∀ X : World, (X.cell? ⟨wr.heap.size, 0, none⟩ = some (.int .i64 xk) ∧ X.cell? ⟨wr.heap.size, 1, none⟩ = some (.string xt) ∧ X.cell? ⟨wr.heap.size, 2, none⟩ = some (.int .i64 xd) ∧ Hid (Below wu.heap.size wu X ∧ wr.heap.size < wu.heap.size)) → Below wu.heap.size wu X) := fun X h => h.2.2.2.out.1
          have K0 : Hid (wu.cell? ⟨wr.heap.size, 0, none⟩ = some (.int .i64 xk) ∧ wu.cell? ⟨wr.heap.size, 1, none⟩ = some (.string xt) ∧ wu.cell? ⟨wr.heap.size, 2, none⟩ = some (.int .i64 xd) ∧ Hid (Below wu.heap.size wu wu ∧ wr.heap.size < wu.heap.size)) := ⟨(t0), (t1), (t2), ⟨Below.refl _ _, (hl1)⟩⟩
          go_region_held3 (fun w' => w'.cell? ⟨wr.heap.size, 0, none⟩ = some (.int .i64 xk) ∧ w'.cell? ⟨wr.heap.size, 1, none⟩ = some (.string xt) ∧ w'.cell? ⟨wr.heap.size, 2, none⟩ = some (.int .i64 xd) ∧ Hid (Below wu.heap.size wu w' ∧ wr.heap.size < wu.heap.size))
            (first | exact K0.out | exact KD.out _ K0.out | assumption | exact KP.out _ _ hb' (KD.out _ K0.out) | (refine KP.out _ _ hb' ?_; with_reducible_and_instances assumption) | (refine KD.out _ ?_; with_reducible_and_instances assumption))
            (first
              | (go_at_call 43; (first | (refine (times_any (a) ⟨xk, xt, xd⟩ _ _ (by first | exact RA1.out | exact RdE.drew RA1.out | exact RdE.below RA1.out (KB.out _ (by assumption)) (Nat.le_refl _)) (by first | omega | (rw [List.length_take]; omega))).mono ?_) | (refine (times_any (b) ⟨xk, xt, xd⟩ _ _ (by first | exact RB1.out | exact RdE.drew RB1.out | exact RdE.below RB1.out (KB.out _ (by assumption)) (Nat.le_refl _)) (by first | omega | (rw [List.length_take]; omega))).mono ?_)); rintro e w' ⟨rfl, hb'⟩))
          rename_i hh
          obtain ⟨s0, s1, s2, sH⟩ := hh
          clear KP KD K0 KB
          have BW2 := Lib.hid (BW1.out.trans (sH.out.1.mono hz1))
          clear s0 s1 s2 sH
          rcases hcs with hc | hc | rfl
          all_goals
            go_wp2_with fail
            refine ⟨⟨k + 1, by omega, by go_num, ?_, BW2.out⟩, by simp [intOf]; try omega⟩
            rw [HST.out]
            first
              | (rw [Int.max_eq_left (by omega)]; try simp)
              | (rw [Int.max_eq_right (by omega)]; try simp)
              | simp
        · have hst := Lib.hid (HT.out.trans (by rw [if_neg (fun h => hseen h.2), Int.add_zero]))
          have hse : ((timesN (a.take k) ⟨xk, xt, xd⟩ : Int) == 0) = false := by simp; omega
          clear hseen
          go_wp2_with fail
          generalize wr.alloc (.cells #[.int .i64 xk, .string xt, .int .i64 xd] 23) = wq at hl0 HXB HBQ hzq RA RB RT
          obtain ⟨x0, x1, x2⟩ := tbox HXB.out
          have KP : Hid (∀ X X' : World, Below X.heap.size X X' → (X.cell? ⟨wr.heap.size, 0, none⟩ = some (.int .i64 xk) ∧ X.cell? ⟨wr.heap.size, 1, none⟩ = some (.string xt) ∧ X.cell? ⟨wr.heap.size, 2, none⟩ = some (.int .i64 xd) ∧ Hid (Below wq.heap.size wq X ∧ wr.heap.size < wq.heap.size)) → (X'.cell? ⟨wr.heap.size, 0, none⟩ = some (.int .i64 xk) ∧ X'.cell? ⟨wr.heap.size, 1, none⟩ = some (.string xt) ∧ X'.cell? ⟨wr.heap.size, 2, none⟩ = some (.int .i64 xd) ∧ Hid (Below wq.heap.size wq X' ∧ wr.heap.size < wq.heap.size))) := by
            rintro X X' hb ⟨q0, q1, q2, hH⟩
            obtain ⟨hB, l0⟩ := hH.out
            have hsz := hB.size
            exact ⟨(hb.cell (p := ⟨wr.heap.size, 0, none⟩) (Nat.lt_of_lt_of_le l0 hsz)).trans q0, (hb.cell (p := ⟨wr.heap.size, 1, none⟩) (Nat.lt_of_lt_of_le l0 hsz)).trans q1, (hb.cell (p := ⟨wr.heap.size, 2, none⟩) (Nat.lt_of_lt_of_le l0 hsz)).trans q2, ⟨hB.trans (hb.mono hsz), l0⟩⟩
          have KD : Hid (∀ X : World, (X.cell? ⟨wr.heap.size, 0, none⟩ = some (.int .i64 xk) ∧ X.cell? ⟨wr.heap.size, 1, none⟩ = some (.string xt) ∧ X.cell? ⟨wr.heap.size, 2, none⟩ = some (.int .i64 xd) ∧ Hid (Below wq.heap.size wq X ∧ wr.heap.size < wq.heap.size)) → (X.drew.cell? ⟨wr.heap.size, 0, none⟩ = some (.int .i64 xk) ∧ X.drew.cell? ⟨wr.heap.size, 1, none⟩ = some (.string xt) ∧ X.drew.cell? ⟨wr.heap.size, 2, none⟩ = some (.int .i64 xd) ∧ Hid (Below wq.heap.size wq X.drew ∧ wr.heap.size < wq.heap.size))) := by
            rintro X ⟨q0, q1, q2, hH⟩
            exact ⟨q0, q1, q2, ⟨below_drewN hH.out.1 1, hH.out.2⟩⟩
          have KB : Hid (∀ X : World, (X.cell? ⟨wr.heap.size, 0, none⟩ = some (.int .i64 xk) ∧ X.cell? ⟨wr.heap.size, 1, none⟩ = some (.string xt) ∧ X.cell? ⟨wr.heap.size, 2, none⟩ = some (.int .i64 xd) ∧ Hid (Below wq.heap.size wq X ∧ wr.heap.size < wq.heap.size)) → Below wq.heap.size wq X) := fun X h => h.2.2.2.out.1
          have K0 : Hid (wq.cell? ⟨wr.heap.size, 0, none⟩ = some (.int .i64 xk) ∧ wq.cell? ⟨wr.heap.size, 1, none⟩ = some (.string xt) ∧ wq.cell? ⟨wr.heap.size, 2, none⟩ = some (.int .i64 xd) ∧ Hid (Below wq.heap.size wq wq ∧ wr.heap.size < wq.heap.size)) := ⟨(x0), (x1), (x2), ⟨Below.refl _ _, (hl0)⟩⟩
          go_region_held3 (fun w' => w'.cell? ⟨wr.heap.size, 0, none⟩ = some (.int .i64 xk) ∧ w'.cell? ⟨wr.heap.size, 1, none⟩ = some (.string xt) ∧ w'.cell? ⟨wr.heap.size, 2, none⟩ = some (.int .i64 xd) ∧ Hid (Below wq.heap.size wq w' ∧ wr.heap.size < wq.heap.size))
            (first | exact K0.out | exact KD.out _ K0.out | assumption | exact KP.out _ _ hb' (KD.out _ K0.out) | (refine KP.out _ _ hb' ?_; with_reducible_and_instances assumption) | (refine KD.out _ ?_; with_reducible_and_instances assumption))
            (first
              | (go_at_call 20; refine (risTag_any xk xd xt _).mono ?_; rintro e w' ⟨rfl, hb'⟩)
              | (go_at_call 43; (first | (refine (times_any (a.take k) ⟨xk, xt, xd⟩ _ _ (by first | exact RT.out | exact RdE.drew RT.out | exact RdE.below RT.out (KB.out _ (by assumption)) (Nat.le_refl _)) (by first | omega | (rw [List.length_take]; omega))).mono ?_)); rintro e w' ⟨rfl, hb'⟩))
          rename_i hh
          obtain ⟨t0, t1, t2, tH⟩ := hh
          clear KP KD K0 KB
          have BW1 := Lib.hid (HBQ.out.trans (tH.out.1.mono hzq))
          clear t0 t1 t2 tH
          go_wp2_with fail
          refine ⟨⟨k + 1, by omega, by go_num, ?_, BW1.out⟩, by simp [intOf]; try omega⟩
          rw [hst.out]
      · have hst := Lib.hid (HT.out.trans (by rw [if_neg (fun h => htag h.1), Int.add_zero]))
        have htag' : isTagB ⟨xk, xt, xd⟩ = false := by simpa using htag
        clear htag
        go_wp2_with fail
        generalize wr.alloc (.cells #[.int .i64 xk, .string xt, .int .i64 xd] 23) = wq at hl0 HXB HBQ hzq RA RB RT
        obtain ⟨x0, x1, x2⟩ := tbox HXB.out
        first | (go_region_with (go_at_call 20; refine (risTag_any xk xd xt _).mono ?_; rintro e w' ⟨rfl, hb'⟩)) | fail
        all_goals
          have BW1 := Lib.hid (HBQ.out.trans (((below_drewN (Below.refl _ _) 1).trans hb').mono hzq))
          clear hb'
          go_wp2_with fail
          refine ⟨⟨k + 1, by omega, by go_num, ?_, BW1.out⟩, by simp [intOf]; try omega⟩
          rw [hst.out]
    · obtain rfl : k = a.length := by omega
      clear hkl
      go_wp2_with fail
      go_loopw [5, 44] (fun nv i wz => ∃ q : Nat, q ≤ b.length ∧ i = .int .i64 q ∧ nv = .int .i64 (sA a b a.length + sB a b q) ∧ Hid (Below w.heap.size w wz)) (fun _ i _ => b.length - (intOf i).toNat)
      case atStart => exact ⟨0, by omega, rfl, by rw [sB_zero, Int.add_zero], HBW.out⟩
      case round =>
        clear HBW hsz hk
        obtain ⟨wz, rfl⟩ : ∃ wz : World, wz = wr := ⟨_, rfl⟩
        obtain ⟨q, hq, rfl, rfl, HBW⟩ := hrel
        have hsz := HBW.out.size
        have s1 := sB_small a b q hq
        by_cases hql : q < b.length
        · obtain ⟨bb, ob, rfl, hbl, q1, q2, q3⟩ := RdT.at_ HB.out q hql
          rw [← HBW.out.cell (p := ⟨bb, ob + q * 3, none⟩) hbl] at q1
          rw [← HBW.out.cell (p := ⟨bb, ob + q * 3 + 1, none⟩) hbl] at q2
          rw [← HBW.out.cell (p := ⟨bb, ob + q * 3 + 2, none⟩) hbl] at q3
          have HT := Lib.hid (sB_step a b q hql)
          have s2 := sB_small a b (q + 1) (by omega)
          generalize b[q] = x at q1 q2 q3 HT
          obtain ⟨xk, xt, xd⟩ := x
          simp only at q1 q2 q3
          have hl0 : wz.heap.size < (wz.alloc (.cells #[.int .i64 xk, .string xt, .int .i64 xd] 23)).heap.size := by simp
          have HXB : Hid ((wz.alloc (.cells #[.int .i64 xk, .string xt, .int .i64 xd] 23)).heap[wz.heap.size]? = some (.cells #[.int .i64 xk, .string xt, .int .i64 xd] 23)) := Array.getElem?_push_size
          have HBQ := Lib.hid (HBW.out.alloc hsz (.cells #[.int .i64 xk, .string xt, .int .i64 xd] 23))
          have hzq := HBQ.out.size
          have RA := Lib.hid (RdE.below HA.out HBQ.out (Nat.le_refl _))
          have RB := Lib.hid (RdE.below HB.out HBQ.out (Nat.le_refl _))
          have RT := Lib.hid (RdE.take RB.out q hq)
          have ekc : (q : Int) ≤ (c2 : Int) := by omega
          have ek0 : q ≤ c2 := by omega
          have t1 := timesN_le a ⟨xk, xt, xd⟩
          have t2 := timesN_le b ⟨xk, xt, xd⟩
          have a1 := sA_small a b a.length (Nat.le_refl _)
          by_cases htag : isTagB ⟨xk, xt, xd⟩ = true
          · by_cases hseen : timesN (b.take q) ⟨xk, xt, xd⟩ = 0
            · have hse : ((timesN (b.take q) ⟨xk, xt, xd⟩ : Int) == 0) = true := by simp; omega
              by_cases hina : timesN a ⟨xk, xt, xd⟩ = 0
              · have hst := Lib.hid (HT.out.trans (by rw [if_pos ⟨htag, hseen, hina⟩]))
                have hse2 : ((timesN a ⟨xk, xt, xd⟩ : Int) == 0) = true := by simp; omega
                have es1 : IntKind.i64.wrap (sA a b a.length + sB a b q + (timesN b ⟨xk, xt, xd⟩ : Int)) = sA a b a.length + sB a b q + (timesN b ⟨xk, xt, xd⟩ : Int) := by rw [IntKind.wrap_i64]; omega
                clear hseen hina
                go_wp2_with fail
                generalize wz.alloc (.cells #[.int .i64 xk, .string xt, .int .i64 xd] 23) = wq at hl0 HXB HBQ hzq RA RB RT
                obtain ⟨x0, x1, x2⟩ := tbox HXB.out
                have KP : Hid (∀ X X' : World, Below X.heap.size X X' → (X.cell? ⟨wz.heap.size, 0, none⟩ = some (.int .i64 xk) ∧ X.cell? ⟨wz.heap.size, 1, none⟩ = some (.string xt) ∧ X.cell? ⟨wz.heap.size, 2, none⟩ = some (.int .i64 xd) ∧ Hid (Below wq.heap.size wq X ∧ wz.heap.size < wq.heap.size)) → (X'.cell? ⟨wz.heap.size, 0, none⟩ = some (.int .i64 xk) ∧ X'.cell? ⟨wz.heap.size, 1, none⟩ = some (.string xt) ∧ X'.cell? ⟨wz.heap.size, 2, none⟩ = some (.int .i64 xd) ∧ Hid (Below wq.heap.size wq X' ∧ wz.heap.size < wq.heap.size))) := by
                  rintro X X' hb ⟨q0, q1, q2, hH⟩
                  obtain ⟨hB, l0⟩ := hH.out
                  have hsz := hB.size
                  exact ⟨(hb.cell (p := ⟨wz.heap.size, 0, none⟩) (Nat.lt_of_lt_of_le l0 hsz)).trans q0, (hb.cell (p := ⟨wz.heap.size, 1, none⟩) (Nat.lt_of_lt_of_le l0 hsz)).trans q1, (hb.cell (p := ⟨wz.heap.size, 2, none⟩) (Nat.lt_of_lt_of_le l0 hsz)).trans q2, ⟨hB.trans (hb.mono hsz), l0⟩⟩
                have KD : Hid (∀ X : World, (X.cell? ⟨wz.heap.size, 0, none⟩ = some (.int .i64 xk) ∧ X.cell? ⟨wz.heap.size, 1, none⟩ = some (.string xt) ∧ X.cell? ⟨wz.heap.size, 2, none⟩ = some (.int .i64 xd) ∧ Hid (Below wq.heap.size wq X ∧ wz.heap.size < wq.heap.size)) → (X.drew.cell? ⟨wz.heap.size, 0, none⟩ = some (.int .i64 xk) ∧ X.drew.cell? ⟨wz.heap.size, 1, none⟩ = some (.string xt) ∧ X.drew.cell? ⟨wz.heap.size, 2, none⟩ = some (.int .i64 xd) ∧ Hid (Below wq.heap.size wq X.drew ∧ wz.heap.size < wq.heap.size))) := by
                  rintro X ⟨q0, q1, q2, hH⟩
                  exact ⟨q0, q1, q2, ⟨below_drewN hH.out.1 1, hH.out.2⟩⟩
                have KB : Hid (∀ X : World, (X.cell? ⟨wz.heap.size, 0, none⟩ = some (.int .i64 xk) ∧ X.cell? ⟨wz.heap.size, 1, none⟩ = some (.string xt) ∧ X.cell? ⟨wz.heap.size, 2, none⟩ = some (.int .i64 xd) ∧ Hid (Below wq.heap.size wq X ∧ wz.heap.size < wq.heap.size)) → Below wq.heap.size wq X) := fun X h => h.2.2.2.out.1
                have K0 : Hid (wq.cell? ⟨wz.heap.size, 0, none⟩ = some (.int .i64 xk) ∧ wq.cell? ⟨wz.heap.size, 1, none⟩ = some (.string xt) ∧ wq.cell? ⟨wz.heap.size, 2, none⟩ = some (.int .i64 xd) ∧ Hid (Below wq.heap.size wq wq ∧ wz.heap.size < wq.heap.size)) := ⟨(x0), (x1), (x2), ⟨Below.refl _ _, (hl0)⟩⟩
                go_region_held3 (fun w' => w'.cell? ⟨wz.heap.size, 0, none⟩ = some (.int .i64 xk) ∧ w'.cell? ⟨wz.heap.size, 1, none⟩ = some (.string xt) ∧ w'.cell? ⟨wz.heap.size, 2, none⟩ = some (.int .i64 xd) ∧ Hid (Below wq.heap.size wq w' ∧ wz.heap.size < wq.heap.size))
                  (first | exact K0.out | exact KD.out _ K0.out | assumption | exact KP.out _ _ hb' (KD.out _ K0.out) | (refine KP.out _ _ hb' ?_; with_reducible_and_instances assumption) | (refine KD.out _ ?_; with_reducible_and_instances assumption))
                  (first
                    | (go_at_call 20; refine (risTag_any xk xd xt _).mono ?_; rintro e w' ⟨rfl, hb'⟩)
                    | (go_at_call 43; (first | (refine (times_any (b.take q) ⟨xk, xt, xd⟩ _ _ (by first | exact RT.out | exact RdE.drew RT.out | exact RdE.below RT.out (KB.out _ (by assumption)) (Nat.le_refl _)) (by first | omega | (rw [List.length_take]; omega))).mono ?_) | (refine (times_any (a) ⟨xk, xt, xd⟩ _ _ (by first | exact RA.out | exact RdE.drew RA.out | exact RdE.below RA.out (KB.out _ (by assumption)) (Nat.le_refl _)) (by first | omega | (rw [List.length_take]; omega))).mono ?_)); rintro e w' ⟨rfl, hb'⟩))
                rename_i hh
                obtain ⟨t0, t1, t2, tH⟩ := hh
                clear KP KD K0 KB
                obtain ⟨wu, rfl⟩ : ∃ wu : World, wu = w' := ⟨_, rfl⟩
                have RB1 := Lib.hid (RdE.below RB.out tH.out.1 (Nat.le_refl _))
                have BW1 := Lib.hid (HBQ.out.trans (tH.out.1.mono hzq))
                have hl1 : wz.heap.size < wu.heap.size := Nat.lt_of_lt_of_le tH.out.2 tH.out.1.size
                have hz1 := BW1.out.size
                go_wp2_with fail
                refine (times_any b ⟨xk, xt, xd⟩ _ _ (by exact RB1.out) (by omega)).mono ?_
                rintro e w5 ⟨rfl, hb5⟩
                have BW2 := Lib.hid (BW1.out.trans (hb5.mono hz1))
                clear hb5 t0 t1 t2 tH
                go_wp2_with fail
                refine ⟨⟨q + 1, by omega, by go_num, ?_, BW2.out⟩, by simp [intOf]; try omega⟩
                rw [hst.out, Int.add_assoc]
              · have hst := Lib.hid (HT.out.trans (by rw [if_neg (fun h => hina h.2.2), Int.add_zero]))
                have hse2 : ((timesN a ⟨xk, xt, xd⟩ : Int) == 0) = false := by simp; omega
                clear hseen hina
                go_wp2_with fail
                generalize wz.alloc (.cells #[.int .i64 xk, .string xt, .int .i64 xd] 23) = wq at hl0 HXB HBQ hzq RA RB RT
                obtain ⟨x0, x1, x2⟩ := tbox HXB.out
                have KP : Hid (∀ X X' : World, Below X.heap.size X X' → (X.cell? ⟨wz.heap.size, 0, none⟩ = some (.int .i64 xk) ∧ X.cell? ⟨wz.heap.size, 1, none⟩ = some (.string xt) ∧ X.cell? ⟨wz.heap.size, 2, none⟩ = some (.int .i64 xd) ∧ Hid (Below wq.heap.size wq X ∧ wz.heap.size < wq.heap.size)) → (X'.cell? ⟨wz.heap.size, 0, none⟩ = some (.int .i64 xk) ∧ X'.cell? ⟨wz.heap.size, 1, none⟩ = some (.string xt) ∧ X'.cell? ⟨wz.heap.size, 2, none⟩ = some (.int .i64 xd) ∧ Hid (Below wq.heap.size wq X' ∧ wz.heap.size < wq.heap.size))) := by
                  rintro X X' hb ⟨q0, q1, q2, hH⟩
                  obtain ⟨hB, l0⟩ := hH.out
                  have hsz := hB.size
                  exact ⟨(hb.cell (p := ⟨wz.heap.size, 0, none⟩) (Nat.lt_of_lt_of_le l0 hsz)).trans q0, (hb.cell (p := ⟨wz.heap.size, 1, none⟩) (Nat.lt_of_lt_of_le l0 hsz)).trans q1, (hb.cell (p := ⟨wz.heap.size, 2, none⟩) (Nat.lt_of_lt_of_le l0 hsz)).trans q2, ⟨hB.trans (hb.mono hsz), l0⟩⟩
                have KD : Hid (∀ X : World, (X.cell? ⟨wz.heap.size, 0, none⟩ = some (.int .i64 xk) ∧ X.cell? ⟨wz.heap.size, 1, none⟩ = some (.string xt) ∧ X.cell? ⟨wz.heap.size, 2, none⟩ = some (.int .i64 xd) ∧ Hid (Below wq.heap.size wq X ∧ wz.heap.size < wq.heap.size)) → (X.drew.cell? ⟨wz.heap.size, 0, none⟩ = some (.int .i64 xk) ∧ X.drew.cell? ⟨wz.heap.size, 1, none⟩ = some (.string xt) ∧ X.drew.cell? ⟨wz.heap.size, 2, none⟩ = some (.int .i64 xd) ∧ Hid (Below wq.heap.size wq X.drew ∧ wz.heap.size < wq.heap.size))) := by
                  rintro X ⟨q0, q1, q2, hH⟩
                  exact ⟨q0, q1, q2, ⟨below_drewN hH.out.1 1, hH.out.2⟩⟩
                have KB : Hid (∀ X : World, (X.cell? ⟨wz.heap.size, 0, none⟩ = some (.int .i64 xk) ∧ X.cell? ⟨wz.heap.size, 1, none⟩ = some (.string xt) ∧ X.cell? ⟨wz.heap.size, 2, none⟩ = some (.int .i64 xd) ∧ Hid (Below wq.heap.size wq X ∧ wz.heap.size < wq.heap.size)) → Below wq.heap.size wq X) := fun X h => h.2.2.2.out.1
                have K0 : Hid (wq.cell? ⟨wz.heap.size, 0, none⟩ = some (.int .i64 xk) ∧ wq.cell? ⟨wz.heap.size, 1, none⟩ = some (.string xt) ∧ wq.cell? ⟨wz.heap.size, 2, none⟩ = some (.int .i64 xd) ∧ Hid (Below wq.heap.size wq wq ∧ wz.heap.size < wq.heap.size)) := ⟨(x0), (x1), (x2), ⟨Below.refl _ _, (hl0)⟩⟩
                go_region_held3 (fun w' => w'.cell? ⟨wz.heap.size, 0, none⟩ = some (.int .i64 xk) ∧ w'.cell? ⟨wz.heap.size, 1, none⟩ = some (.string xt) ∧ w'.cell? ⟨wz.heap.size, 2, none⟩ = some (.int .i64 xd) ∧ Hid (Below wq.heap.size wq w' ∧ wz.heap.size < wq.heap.size))
                  (first | exact K0.out | exact KD.out _ K0.out | assumption | exact KP.out _ _ hb' (KD.out _ K0.out) | (refine KP.out _ _ hb' ?_; with_reducible_and_instances assumption) | (refine KD.out _ ?_; with_reducible_and_instances assumption))
                  (first
                    | (go_at_call 20; refine (risTag_any xk xd xt _).mono ?_; rintro e w' ⟨rfl, hb'⟩)
                    | (go_at_call 43; (first | (refine (times_any (b.take q) ⟨xk, xt, xd⟩ _ _ (by first | exact RT.out | exact RdE.drew RT.out | exact RdE.below RT.out (KB.out _ (by assumption)) (Nat.le_refl _)) (by first | omega | (rw [List.length_take]; omega))).mono ?_) | (refine (times_any (a) ⟨xk, xt, xd⟩ _ _ (by first | exact RA.out | exact RdE.drew RA.out | exact RdE.below RA.out (KB.out _ (by assumption)) (Nat.le_refl _)) (by first | omega | (rw [List.length_take]; omega))).mono ?_)); rintro e w' ⟨rfl, hb'⟩))
                rename_i hh
                obtain ⟨t0, t1, t2, tH⟩ := hh
                clear KP KD K0 KB
                have BW1 := Lib.hid (HBQ.out.trans (tH.out.1.mono hzq))
                clear t0 t1 t2 tH
                go_wp2_with fail
                refine ⟨⟨q + 1, by omega, by go_num, ?_, BW1.out⟩, by simp [intOf]; try omega⟩
                rw [hst.out]
            · have hst := Lib.hid (HT.out.trans (by rw [if_neg (fun h => hseen h.2.1), Int.add_zero]))
              have hse : ((timesN (b.take q) ⟨xk, xt, xd⟩ : Int) == 0) = false := by simp; omega
              clear hseen
              go_wp2_with fail
              generalize wz.alloc (.cells #[.int .i64 xk, .string xt, .int .i64 xd] 23) = wq at hl0 HXB HBQ hzq RA RB RT
              obtain ⟨x0, x1, x2⟩ := tbox HXB.out
              first
                | (go_region_with (first
                    | (go_at_call 20; refine (risTag_any xk xd xt _).mono ?_; rintro e w' ⟨rfl, hb'⟩; have HBI : Hid (Below wq.heap.size wq w') := (below_drewN (Below.refl _ _) 1).trans hb'; have hx' := Lib.hid ((HBI.out.block wz.heap.size hl0).trans HXB.out); obtain ⟨y0, y1, y2⟩ := tbox hx'.out; clear hb')
                    | (go_at_call 43; refine (times_any (b.take q) ⟨xk, xt, xd⟩ _ _ (by exact RdE.below RT.out HBI.out (Nat.le_refl _)) (by rw [List.length_take]; omega)).mono ?_; rintro e w'' ⟨rfl, hb''⟩)))
                | fail
              all_goals
                have BW1 := Lib.hid (HBQ.out.trans ((HBI.out.trans (hb''.mono HBI.out.size)).mono hzq))
                clear hb''
                go_wp2_with fail
                refine ⟨⟨q + 1, by omega, by go_num, ?_, BW1.out⟩, by simp [intOf]; try omega⟩
                rw [hst.out]
          · have hst := Lib.hid (HT.out.trans (by rw [if_neg (fun h => htag h.1), Int.add_zero]))
            have htag' : isTagB ⟨xk, xt, xd⟩ = false := by simpa using htag
            clear htag
            go_wp2_with fail
            generalize wz.alloc (.cells #[.int .i64 xk, .string xt, .int .i64 xd] 23) = wq at hl0 HXB HBQ hzq RA RB RT
            obtain ⟨x0, x1, x2⟩ := tbox HXB.out
            first | (go_region_with (go_at_call 20; refine (risTag_any xk xd xt _).mono ?_; rintro e w' ⟨rfl, hb'⟩)) | fail
            all_goals
              have BW1 := Lib.hid (HBQ.out.trans (((below_drewN (Below.refl _ _) 1).trans hb').mono hzq))
              clear hb'
              go_wp2_with fail
              refine ⟨⟨q + 1, by omega, by go_num, ?_, BW1.out⟩, by simp [intOf]; try omega⟩
              rw [hst.out]
        · obtain rfl : q = b.length := by omega
          go_wp2_with fail
          go_ret
          exact ⟨ret_int (sup_ref a b), HBW.out⟩

end Go.Proofs.Yteccphcophjhpaa
