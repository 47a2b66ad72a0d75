
/-
  Leaf functions of package distance and of its reference: tags, single costs, the cost of a pair.
-/
import Derived.Test.YteccphcophjhpaaMathDist
import Derived.Deep.RegionHeld3
import Derived.Deep.RegionWith
namespace Go.Proofs.Yteccphcophjhpaa
open Go.RowKit

def costV (x y : Tk) : Int := if costOk x y then costI x y else 0
theorem costV_ok {x y : Tk} (h : costOk x y = true) : costV x y = costI x y := by rw [costV, if_pos h]
theorem costV_bd (x y : Tk) : 0 ≤ costV x y ∧ costV x y ≤ 4 := by
  have := costI_bd x y
  unfold costV
  split <;> omega
theorem two_boxes (w : World) (o p : Obj) : ((w.alloc o).alloc p).heap[w.heap.size]? = some o ∧ ((w.alloc o).alloc p).heap[w.heap.size + 1]? = some p := by
  refine ⟨?_, ?_⟩
  · rw [Below.heap_alloc (w.alloc o) p w.heap.size (by simp)]
    exact Array.getElem?_push_size
  · have : (w.alloc o).heap.size = w.heap.size + 1 := by simp
    rw [← this]
    exact Array.getElem?_push_size
theorem two_size (w : World) (o p : Obj) : ((w.alloc o).alloc p).heap.size = w.heap.size + 2 := by simp
theorem tbox {w : World} {b : Nat} {v0 v1 v2 : Value} {t : TypeId} (h : w.heap[b]? = some (.cells #[v0, v1, v2] t)) : w.cell? ⟨b, 0, none⟩ = some v0 ∧ w.cell? ⟨b, 1, none⟩ = some v1 ∧ w.cell? ⟨b, 2, none⟩ = some v2 :=
  ⟨by rw [cell_of_row _ _ 0 _ _ _ h]; rfl, by rw [cell_of_row _ _ 1 _ _ _ h]; rfl, by rw [cell_of_row _ _ 2 _ _ _ h]; rfl⟩

theorem isTag_any (k d : Int) (t : ByteArray) (w : World) :
    Calls Try.prog 52 #[.agg #[.int .i64 k, .string t, .int .i64 d]] w fun e w' => e = .returned (.bool (isTagB ⟨k, t, d⟩)) ∧ Below w.heap.size w w' := by
  rcases (show k = 2 ∨ k = 3 ∨ k = 4 ∨ (k ≠ 2 ∧ k ≠ 3 ∧ k ≠ 4) from by omega) with rfl | rfl | rfl | h
  case inr.inr.inr =>
    have t2 : (k == 2) = false := by simp; omega
    have t3 : (k == 3) = false := by simp; omega
    have t4 : (k == 4) = false := by simp; omega
    have H : Hid (isTagB ⟨k, t, d⟩ = false) := by
      show isTagB ⟨k, t, d⟩ = false
      unfold isTagB
      simp [t2, t3, t4]
    clear h
    go_enter Try.func52, Try.ntmps52
    go_wp2
    go_ret
    exact ⟨ret_bool H.out.symm, (Below.refl _ _).alloc (Nat.le_refl _) _⟩
  all_goals
    go_enter Try.func52, Try.ntmps52
    go_wp2
    go_ret
    exact ⟨rfl, (Below.refl _ _).alloc (Nat.le_refl _) _⟩

theorem risTag_any (k d : Int) (t : ByteArray) (w : World) :
    Calls Try.prog 20 #[.agg #[.int .i64 k, .string t, .int .i64 d]] w fun e w' => e = .returned (.bool (isTagB ⟨k, t, d⟩)) ∧ Below w.heap.size w w' := by
  rcases (show k = 2 ∨ k = 3 ∨ k = 4 ∨ (k ≠ 2 ∧ k ≠ 3 ∧ k ≠ 4) from by omega) with rfl | rfl | rfl | h
  case inr.inr.inr =>
    have t2 : (k == 2) = false := by simp; omega
    have t3 : (k == 3) = false := by simp; omega
    have t4 : (k == 4) = false := by simp; omega
    have H : Hid (isTagB ⟨k, t, d⟩ = false) := by
      show isTagB ⟨k, t, d⟩ = false
      unfold isTagB
      simp [t2, t3, t4]
    clear h
    go_enter Try.func20, Try.ntmps20
    go_wp2
    go_ret
    exact ⟨ret_bool H.out.symm, (Below.refl _ _).alloc (Nat.le_refl _) _⟩
  all_goals
    go_enter Try.func20, Try.ntmps20
    go_wp2
    go_ret
    exact ⟨rfl, (Below.refl _ _).alloc (Nat.le_refl _) _⟩

theorem single_any (k d : Int) (t : ByteArray) (w : World) :
    Calls Try.prog 38 #[.agg #[.int .i64 k, .string t, .int .i64 d]] w fun e w' => e = .returned (.int .i64 (singleI ⟨k, t, d⟩)) ∧ Below w.heap.size w w' := by
  have b0 : (w.alloc (.cells #[.int .i64 k, .string t, .int .i64 d] 23)).heap[w.heap.size]? = some (.cells #[.int .i64 k, .string t, .int .i64 d] 23) := Array.getElem?_push_size
  have hA := (Below.refl w.heap.size w).alloc (Nat.le_refl _) (.cells #[.int .i64 k, .string t, .int .i64 d] 23)
  by_cases h : isTagB ⟨k, t, d⟩ = true
  · have HS : Hid (singleI ⟨k, t, d⟩ = 1) := by
      show singleI ⟨k, t, d⟩ = 1
      rw [singleI, if_pos h]
    have HB := Lib.hid b0
    clear b0
    go_enter Try.func38, Try.ntmps38
    go_wp2_with (go_at_call 52; refine (isTag_any k d t _).mono ?_; rintro e w1 ⟨rfl, hb1⟩)
    go_ret
    exact ⟨ret_int HS.out.symm, hA.trans (hb1.mono (by simp))⟩
  · have h' : isTagB ⟨k, t, d⟩ = false := by simpa using h
    have HS : Hid (singleI ⟨k, t, d⟩ = weightI k) := by
      show singleI ⟨k, t, d⟩ = weightI k
      rw [singleI, if_neg h]
    have HB := Lib.hid b0
    clear b0 h
    go_enter Try.func38, Try.ntmps38
    go_wp2_with fail
    refine (isTag_any k d t _).mono ?_
    rintro e w1 ⟨rfl, hb1⟩
    obtain ⟨c0, c1, c2⟩ := tbox ((hb1.block w.heap.size (by simp)).trans HB.out)
    have hz1 := hb1.size
    go_wp2_with (go_at_call 35; refine (weight_any k d t _).mono ?_; rintro e w2 ⟨rfl, hb2⟩)
    go_ret
    exact ⟨ret_int HS.out.symm, (hA.trans (hb1.mono (by simp))).trans (hb2.mono (by simp at hz1; omega))⟩

theorem alone_any (k d : Int) (t : ByteArray) (w : World) :
    Calls Try.prog 42 #[.agg #[.int .i64 k, .string t, .int .i64 d]] w fun e w' => e = .returned (.int .i64 (singleI ⟨k, t, d⟩)) ∧ Below w.heap.size w w' := by
  have b0 : (w.alloc (.cells #[.int .i64 k, .string t, .int .i64 d] 23)).heap[w.heap.size]? = some (.cells #[.int .i64 k, .string t, .int .i64 d] 23) := Array.getElem?_push_size
  have hA := (Below.refl w.heap.size w).alloc (Nat.le_refl _) (.cells #[.int .i64 k, .string t, .int .i64 d] 23)
  by_cases h : isTagB ⟨k, t, d⟩ = true
  · have HS : Hid (singleI ⟨k, t, d⟩ = 1) := by
      show singleI ⟨k, t, d⟩ = 1
      rw [singleI, if_pos h]
    have HB := Lib.hid b0
    clear b0
    go_enter Try.func42, Try.ntmps42
    go_wp2_with (go_at_call 20; refine (risTag_any k d t _).mono ?_; rintro e w1 ⟨rfl, hb1⟩)
    go_ret
    exact ⟨ret_int HS.out.symm, hA.trans (hb1.mono (by simp))⟩
  · have h' : isTagB ⟨k, t, d⟩ = false := by simpa using h
    have HS : Hid (singleI ⟨k, t, d⟩ = weightI k) := by
      show singleI ⟨k, t, d⟩ = weightI k
      rw [singleI, if_neg h]
    have HB := Lib.hid b0
    clear b0 h
    go_enter Try.func42, Try.ntmps42
    go_wp2_with fail
    refine (risTag_any k d t _).mono ?_
    rintro e w1 ⟨rfl, hb1⟩
    obtain ⟨c0, c1, c2⟩ := tbox ((hb1.block w.heap.size (by simp)).trans HB.out)
    have hz1 := hb1.size
    go_wp2_with (go_at_call 37; refine (rweight_any k d t _).mono ?_; rintro e w2 ⟨rfl, hb2⟩)
    go_ret
    exact ⟨ret_int HS.out.symm, (hA.trans (hb1.mono (by simp))).trans (hb2.mono (by simp at hz1; omega))⟩

set_option maxHeartbeats 1000000 in
theorem cost_any (k d k2 d2 : Int) (t t2 : ByteArray) (w : World) (ht : t.size ≤ maxLen) (ht2 : t2.size ≤ maxLen) :
    Calls Try.prog 15 #[.agg #[.int .i64 k, .string t, .int .i64 d], .agg #[.int .i64 k2, .string t2, .int .i64 d2]] w fun e w' => e = .returned (.tuple #[.int .i64 (costV ⟨k, t, d⟩ ⟨k2, t2, d2⟩), .bool (costOk ⟨k, t, d⟩ ⟨k2, t2, d2⟩)]) ∧ Below w.heap.size w w' := by
  have HB := Lib.hid (two_boxes w (.cells #[.int .i64 k, .string t, .int .i64 d] 23) (.cells #[.int .i64 k2, .string t2, .int .i64 d2] 23))
  have hA := ((Below.refl w.heap.size w).alloc (Nat.le_refl _) (.cells #[.int .i64 k, .string t, .int .i64 d] 23)).alloc (by simp) (.cells #[.int .i64 k2, .string t2, .int .i64 d2] 23)
  have h2 : ∀ {a b : Value} {e : Ending}, a = b → e = .returned a → e = .returned b := fun h h' => h ▸ h'
  by_cases hs : (k == k2 && t.toList == t2.toList) = true
  · have hok : costOk ⟨k, t, d⟩ ⟨k2, t2, d2⟩ = true := by unfold costOk sameB; rw [hs]; rfl
    have hv : costV ⟨k, t, d⟩ ⟨k2, t2, d2⟩ = 0 := by rw [costV, if_pos hok, costI, if_pos (show sameB ⟨k, t, d⟩ ⟨k2, t2, d2⟩ = true from hs)]
    have HOK := Lib.hid hok
    have HV := Lib.hid hv
    clear hok hv
    go_enter Try.func15, Try.ntmps15
    go_wp2_with fail
    refine (same_any _ d _ d2 t t2 _).mono ?_
    rintro e w1 ⟨rfl, hb1⟩
    have HB1 := Lib.hid hb1
    have hz1 := hb1.size
    rw [two_size] at hz1
    have g0 := Lib.hid ((hb1.block w.heap.size (by rw [two_size]; omega)).trans HB.out.1)
    have g1 := Lib.hid ((hb1.block (w.heap.size + 1) (by rw [two_size]; omega)).trans HB.out.2)
    have l0 : w.heap.size < w1.heap.size := by omega
    have l1 : w.heap.size + 1 < w1.heap.size := by omega
    obtain ⟨c0, c1, c2⟩ := tbox g0.out
    obtain ⟨e0, e1, e2⟩ := tbox g1.out
    have hW : Below w.heap.size w w1 := hA.trans (hb1.mono (by rw [two_size]; omega))
    clear hb1
    go_wp2_with fail
    go_ret2
    exact ⟨by rw [HV.out, HOK.out]; rfl, hW⟩
  have hs' : (k == k2 && t.toList == t2.toList) = false := by simpa using hs
  have hsB : sameB ⟨k, t, d⟩ ⟨k2, t2, d2⟩ = false := hs'
  by_cases hk : k = k2
  · subst hk
    have hkk : (k != k) = false := by simp
    have hq : (t.toList == t2.toList) = false := by simpa using hs'
    have hkb : (k == k) = true := by simp
    by_cases h6 : k = 6
    · subst h6
      have hok : costOk ⟨6, t, d⟩ ⟨6, t2, d2⟩ = true := by unfold costOk; rw [hsB]; rfl
      have hw6 : weightI 6 = 4 := rfl
      by_cases hkey : keyT ⟨6, t, d⟩ = keyT ⟨6, t2, d2⟩
      · have hv : costV ⟨6, t, d⟩ ⟨6, t2, d2⟩ = 1 := by rw [costV, if_pos hok, costI, if_neg (by rw [hsB]; exact Bool.false_ne_true), if_pos ⟨rfl, hkey⟩]
        have HOK := Lib.hid hok
        have HV := Lib.hid hv
        have hke : ((keyT ⟨6, t, d⟩).toList == (keyT ⟨6, t2, d2⟩).toList) = true := by rw [hkey]; simp
        have HK := Lib.hid hkey
        clear hok hv hkey hs hsB
        go_enter Try.func15, Try.ntmps15
        go_wp2_with fail
        refine (same_any _ d _ d2 t t2 _).mono ?_
        rintro e w1 ⟨rfl, hb1⟩
        have HB1 := Lib.hid hb1
        have hz1 := hb1.size
        rw [two_size] at hz1
        have g0 := Lib.hid ((hb1.block w.heap.size (by rw [two_size]; omega)).trans HB.out.1)
        have g1 := Lib.hid ((hb1.block (w.heap.size + 1) (by rw [two_size]; omega)).trans HB.out.2)
        have l0 : w.heap.size < w1.heap.size := by omega
        have l1 : w.heap.size + 1 < w1.heap.size := by omega
        obtain ⟨c0, c1, c2⟩ := tbox g0.out
        obtain ⟨e0, e1, e2⟩ := tbox g1.out
        have hW : Below w.heap.size w w1 := hA.trans (hb1.mono (by rw [two_size]; omega))
        clear hb1
        go_wp2_with fail
        have KP : Hid (∀ X X' : World, Below X.heap.size X X' → (X.cell? ⟨w.heap.size, 0, none⟩ = some (.int .i64 6) ∧ X.cell? ⟨w.heap.size, 1, none⟩ = some (.string t) ∧ X.cell? ⟨w.heap.size, 2, none⟩ = some (.int .i64 d) ∧ X.cell? ⟨w.heap.size + 1, 0, none⟩ = some (.int .i64 6) ∧ X.cell? ⟨w.heap.size + 1, 1, none⟩ = some (.string t2) ∧ X.cell? ⟨w.heap.size + 1, 2, none⟩ = some (.int .i64 d2) ∧ Hid (Below w1.heap.size w1 X ∧ w.heap.size < w1.heap.size ∧ w.heap.size + 1 < w1.heap.size)) → (X'.cell? ⟨w.heap.size, 0, none⟩ = some (.int .i64 6) ∧ X'.cell? ⟨w.heap.size, 1, none⟩ = some (.string t) ∧ X'.cell? ⟨w.heap.size, 2, none⟩ = some (.int .i64 d) ∧ X'.cell? ⟨w.heap.size + 1, 0, none⟩ = some (.int .i64 6) ∧ X'.cell? ⟨w.heap.size + 1, 1, none⟩ = some (.string t2) ∧ X'.cell? ⟨w.heap.size + 1, 2, none⟩ = some (.int .i64 d2) ∧ Hid (Below w1.heap.size w1 X' ∧ w.heap.size < w1.heap.size ∧ w.heap.size + 1 < w1.heap.size))) := by
          rintro X X' hb ⟨q0, q1, q2, q3, q4, q5, hH⟩
          obtain ⟨hB, l0, l1⟩ := hH.out
          have hsz := hB.size
          exact ⟨(hb.cell (p := ⟨w.heap.size, 0, none⟩) (Nat.lt_of_lt_of_le l0 hsz)).trans q0, (hb.cell (p := ⟨w.heap.size, 1, none⟩) (Nat.lt_of_lt_of_le l0 hsz)).trans q1, (hb.cell (p := ⟨w.heap.size, 2, none⟩) (Nat.lt_of_lt_of_le l0 hsz)).trans q2, (hb.cell (p := ⟨w.heap.size + 1, 0, none⟩) (Nat.lt_of_lt_of_le l1 hsz)).trans q3, (hb.cell (p := ⟨w.heap.size + 1, 1, none⟩) (Nat.lt_of_lt_of_le l1 hsz)).trans q4, (hb.cell (p := ⟨w.heap.size + 1, 2, none⟩) (Nat.lt_of_lt_of_le l1 hsz)).trans q5, ⟨hB.trans (hb.mono hsz), l0, l1⟩⟩
        have KD : Hid (∀ X : World, (X.cell? ⟨w.heap.size, 0, none⟩ = some (.int .i64 6) ∧ X.cell? ⟨w.heap.size, 1, none⟩ = some (.string t) ∧ X.cell? ⟨w.heap.size, 2, none⟩ = some (.int .i64 d) ∧ X.cell? ⟨w.heap.size + 1, 0, none⟩ = some (.int .i64 6) ∧ X.cell? ⟨w.heap.size + 1, 1, none⟩ = some (.string t2) ∧ X.cell? ⟨w.heap.size + 1, 2, none⟩ = some (.int .i64 d2) ∧ Hid (Below w1.heap.size w1 X ∧ w.heap.size < w1.heap.size ∧ w.heap.size + 1 < w1.heap.size)) → (X.drew.cell? ⟨w.heap.size, 0, none⟩ = some (.int .i64 6) ∧ X.drew.cell? ⟨w.heap.size, 1, none⟩ = some (.string t) ∧ X.drew.cell? ⟨w.heap.size, 2, none⟩ = some (.int .i64 d) ∧ X.drew.cell? ⟨w.heap.size + 1, 0, none⟩ = some (.int .i64 6) ∧ X.drew.cell? ⟨w.heap.size + 1, 1, none⟩ = some (.string t2) ∧ X.drew.cell? ⟨w.heap.size + 1, 2, none⟩ = some (.int .i64 d2) ∧ Hid (Below w1.heap.size w1 X.drew ∧ w.heap.size < w1.heap.size ∧ w.heap.size + 1 < w1.heap.size))) := by
          rintro X ⟨q0, q1, q2, q3, q4, q5, hH⟩
          exact ⟨q0, q1, q2, q3, q4, q5, ⟨below_drewN hH.out.1 1, hH.out.2⟩⟩
        have K0 : Hid (w1.cell? ⟨w.heap.size, 0, none⟩ = some (.int .i64 6) ∧ w1.cell? ⟨w.heap.size, 1, none⟩ = some (.string t) ∧ w1.cell? ⟨w.heap.size, 2, none⟩ = some (.int .i64 d) ∧ w1.cell? ⟨w.heap.size + 1, 0, none⟩ = some (.int .i64 6) ∧ w1.cell? ⟨w.heap.size + 1, 1, none⟩ = some (.string t2) ∧ w1.cell? ⟨w.heap.size + 1, 2, none⟩ = some (.int .i64 d2) ∧ Hid (Below w1.heap.size w1 w1 ∧ w.heap.size < w1.heap.size ∧ w.heap.size + 1 < w1.heap.size)) := ⟨(c0), (c1), (c2), (e0), (e1), (e2), ⟨Below.refl _ _, (l0), (l1)⟩⟩
        go_region_held3 (fun w' => w'.cell? ⟨w.heap.size, 0, none⟩ = some (.int .i64 6) ∧ w'.cell? ⟨w.heap.size, 1, none⟩ = some (.string t) ∧ w'.cell? ⟨w.heap.size, 2, none⟩ = some (.int .i64 d) ∧ w'.cell? ⟨w.heap.size + 1, 0, none⟩ = some (.int .i64 6) ∧ w'.cell? ⟨w.heap.size + 1, 1, none⟩ = some (.string t2) ∧ w'.cell? ⟨w.heap.size + 1, 2, none⟩ = some (.int .i64 d2) ∧ Hid (Below w1.heap.size w1 w' ∧ w.heap.size < w1.heap.size ∧ w.heap.size + 1 < w1.heap.size))
          (first | exact K0.out | exact KD.out _ K0.out | assumption | exact KP.out _ _ hb' (KD.out _ K0.out) | (refine KP.out _ _ hb' ?_; with_reducible_and_instances assumption) | (refine KD.out _ ?_; with_reducible_and_instances assumption))
          (first
            | (go_at_call 34; refine (key_any _ _ _ _ (by assumption)).mono ?_; rintro e w' ⟨rfl, hb'⟩))
        rename_i hh
        obtain ⟨t0, t1, t2, t3, t4, t5, tH⟩ := hh
        clear KP KD K0
        go_wp2_with fail
        go_ret2
        exact ⟨by rw [HV.out, HOK.out]; rfl, hW.trans (tH.out.1.mono (by omega))⟩
      · have hv : costV ⟨6, t, d⟩ ⟨6, t2, d2⟩ = 4 := by rw [costV, if_pos hok, costI, if_neg (by rw [hsB]; exact Bool.false_ne_true), if_neg (fun h => hkey h.2)]; rfl
        have HOK := Lib.hid hok
        have HV := Lib.hid hv
        have hke : ((keyT ⟨6, t, d⟩).toList == (keyT ⟨6, t2, d2⟩).toList) = false := by
          rw [beq_eq_false_iff_ne]
          exact fun h => hkey (toList_inj h)
        clear hok hv hkey hs hsB
        go_enter Try.func15, Try.ntmps15
        go_wp2_with fail
        refine (same_any _ d _ d2 t t2 _).mono ?_
        rintro e w1 ⟨rfl, hb1⟩
        have HB1 := Lib.hid hb1
        have hz1 := hb1.size
        rw [two_size] at hz1
        have g0 := Lib.hid ((hb1.block w.heap.size (by rw [two_size]; omega)).trans HB.out.1)
        have g1 := Lib.hid ((hb1.block (w.heap.size + 1) (by rw [two_size]; omega)).trans HB.out.2)
        have l0 : w.heap.size < w1.heap.size := by omega
        have l1 : w.heap.size + 1 < w1.heap.size := by omega
        obtain ⟨c0, c1, c2⟩ := tbox g0.out
        obtain ⟨e0, e1, e2⟩ := tbox g1.out
        have hW : Below w.heap.size w w1 := hA.trans (hb1.mono (by rw [two_size]; omega))
        clear hb1
        go_wp2_with fail
        have KP : Hid (∀ X X' : World, Below X.heap.size X X' → (X.cell? ⟨w.heap.size, 0, none⟩ = some (.int .i64 6) ∧ X.cell? ⟨w.heap.size, 1, none⟩ = some (.string t) ∧ X.cell? ⟨w.heap.size, 2, none⟩ = some (.int .i64 d) ∧ X.cell? ⟨w.heap.size + 1, 0, none⟩ = some (.int .i64 6) ∧ X.cell? ⟨w.heap.size + 1, 1, none⟩ = some (.string t2) ∧ X.cell? ⟨w.heap.size + 1, 2, none⟩ = some (.int .i64 d2) ∧ Hid (Below w1.heap.size w1 X ∧ w.heap.size < w1.heap.size ∧ w.heap.size + 1 < w1.heap.size)) → (X'.cell? ⟨w.heap.size, 0, none⟩ = some (.int .i64 6) ∧ X'.cell? ⟨w.heap.size, 1, none⟩ = some (.string t) ∧ X'.cell? ⟨w.heap.size, 2, none⟩ = some (.int .i64 d) ∧ X'.cell? ⟨w.heap.size + 1, 0, none⟩ = some (.int .i64 6) ∧ X'.cell? ⟨w.heap.size + 1, 1, none⟩ = some (.string t2) ∧ X'.cell? ⟨w.heap.size + 1, 2, none⟩ = some (.int .i64 d2) ∧ Hid (Below w1.heap.size w1 X' ∧ w.heap.size < w1.heap.size ∧ w.heap.size + 1 < w1.heap.size))) := by
          rintro X X' hb ⟨q0, q1, q2, q3, q4, q5, hH⟩
          obtain ⟨hB, l0, l1⟩ := hH.out
          have hsz := hB.size
          exact ⟨(hb.cell (p := ⟨w.heap.size, 0, none⟩) (Nat.lt_of_lt_of_le l0 hsz)).trans q0, (hb.cell (p := ⟨w.heap.size, 1, none⟩) (Nat.lt_of_lt_of_le l0 hsz)).trans q1, (hb.cell (p := ⟨w.heap.size, 2, none⟩) (Nat.lt_of_lt_of_le l0 hsz)).trans q2, (hb.cell (p := ⟨w.heap.size + 1, 0, none⟩) (Nat.lt_of_lt_of_le l1 hsz)).trans q3, (hb.cell (p := ⟨w.heap.size + 1, 1, none⟩) (Nat.lt_of_lt_of_le l1 hsz)).trans q4, (hb.cell (p := ⟨w.heap.size + 1, 2, none⟩) (Nat.lt_of_lt_of_le l1 hsz)).trans q5, ⟨hB.trans (hb.mono hsz), l0, l1⟩⟩
        have KD : Hid (∀ X : World, (X.cell? ⟨w.heap.size, 0, none⟩ = some (.int .i64 6) ∧ X.cell? ⟨w.heap.size, 1, none⟩ = some (.string t) ∧ X.cell? ⟨w.heap.size, 2, none⟩ = some (.int .i64 d) ∧ X.cell? ⟨w.heap.size + 1, 0, none⟩ = some (.int .i64 6) ∧ X.cell? ⟨w.heap.size + 1, 1, none⟩ = some (.string t2) ∧ X.cell? ⟨w.heap.size + 1, 2, none⟩ = some (.int .i64 d2) ∧ Hid (Below w1.heap.size w1 X ∧ w.heap.size < w1.heap.size ∧ w.heap.size + 1 < w1.heap.size)) → (X.drew.cell? ⟨w.heap.size, 0, none⟩ = some (.int .i64 6) ∧ X.drew.cell? ⟨w.heap.size, 1, none⟩ = some (.string t) ∧ X.drew.cell? ⟨w.heap.size, 2, none⟩ = some (.int .i64 d) ∧ X.drew.cell? ⟨w.heap.size + 1, 0, none⟩ = some (.int .i64 6) ∧ X.drew.cell? ⟨w.heap.size + 1, 1, none⟩ = some (.string t2) ∧ X.drew.cell? ⟨w.heap.size + 1, 2, none⟩ = some (.int .i64 d2) ∧ Hid (Below w1.heap.size w1 X.drew ∧ w.heap.size < w1.heap.size ∧ w.heap.size + 1 < w1.heap.size))) := by
          rintro X ⟨q0, q1, q2, q3, q4, q5, hH⟩
          exact ⟨q0, q1, q2, q3, q4, q5, ⟨below_drewN hH.out.1 1, hH.out.2⟩⟩
        have K0 : Hid (w1.cell? ⟨w.heap.size, 0, none⟩ = some (.int .i64 6) ∧ w1.cell? ⟨w.heap.size, 1, none⟩ = some (.string t) ∧ w1.cell? ⟨w.heap.size, 2, none⟩ = some (.int .i64 d) ∧ w1.cell? ⟨w.heap.size + 1, 0, none⟩ = some (.int .i64 6) ∧ w1.cell? ⟨w.heap.size + 1, 1, none⟩ = some (.string t2) ∧ w1.cell? ⟨w.heap.size + 1, 2, none⟩ = some (.int .i64 d2) ∧ Hid (Below w1.heap.size w1 w1 ∧ w.heap.size < w1.heap.size ∧ w.heap.size + 1 < w1.heap.size)) := ⟨(c0), (c1), (c2), (e0), (e1), (e2), ⟨Below.refl _ _, (l0), (l1)⟩⟩
        go_region_held3 (fun w' => w'.cell? ⟨w.heap.size, 0, none⟩ = some (.int .i64 6) ∧ w'.cell? ⟨w.heap.size, 1, none⟩ = some (.string t) ∧ w'.cell? ⟨w.heap.size, 2, none⟩ = some (.int .i64 d) ∧ w'.cell? ⟨w.heap.size + 1, 0, none⟩ = some (.int .i64 6) ∧ w'.cell? ⟨w.heap.size + 1, 1, none⟩ = some (.string t2) ∧ w'.cell? ⟨w.heap.size + 1, 2, none⟩ = some (.int .i64 d2) ∧ Hid (Below w1.heap.size w1 w' ∧ w.heap.size < w1.heap.size ∧ w.heap.size + 1 < w1.heap.size))
          (first | exact K0.out | exact KD.out _ K0.out | assumption | exact KP.out _ _ hb' (KD.out _ K0.out) | (refine KP.out _ _ hb' ?_; with_reducible_and_instances assumption) | (refine KD.out _ ?_; with_reducible_and_instances assumption))
          (first
            | (go_at_call 34; refine (key_any _ _ _ _ (by assumption)).mono ?_; rintro e w' ⟨rfl, hb'⟩))
        rename_i hh
        obtain ⟨t0, t1, t2, t3, t4, t5, tH⟩ := hh
        clear KP KD K0
        go_wp2_with (go_at_call 35; refine (weight_any 6 d t _).mono ?_; rintro e w9 ⟨rfl, hb9⟩)
        go_ret2
        have hz9 := tH.out.1.size
        exact ⟨by rw [HV.out, HOK.out]; rfl, (hW.trans (tH.out.1.mono (by omega))).trans (hb9.mono (by omega))⟩
    by_cases hr : 5 ≤ k ∧ k ≤ 9
    · have hok : costOk ⟨k, t, d⟩ ⟨k, t2, d2⟩ = true := by unfold costOk; rw [hsB]; simp; omega
      have hv : costV ⟨k, t, d⟩ ⟨k, t2, d2⟩ = weightI k := by rw [costV, if_pos hok, costI, if_neg (by rw [hsB]; exact Bool.false_ne_true), if_neg (fun h => h6 h.1)]
      have HOK := Lib.hid hok
      have HV := Lib.hid hv
      clear hok hv hs hsB
      rcases (show k = 5 ∨ k = 7 ∨ k = 8 ∨ k = 9 from by omega) with rfl | rfl | rfl | rfl
      all_goals
        go_enter Try.func15, Try.ntmps15
        go_wp2_with fail
        refine (same_any _ d _ d2 t t2 _).mono ?_
        rintro e w1 ⟨rfl, hb1⟩
        have HB1 := Lib.hid hb1
        have hz1 := hb1.size
        rw [two_size] at hz1
        have g0 := Lib.hid ((hb1.block w.heap.size (by rw [two_size]; omega)).trans HB.out.1)
        have g1 := Lib.hid ((hb1.block (w.heap.size + 1) (by rw [two_size]; omega)).trans HB.out.2)
        have l0 : w.heap.size < w1.heap.size := by omega
        have l1 : w.heap.size + 1 < w1.heap.size := by omega
        obtain ⟨c0, c1, c2⟩ := tbox g0.out
        obtain ⟨e0, e1, e2⟩ := tbox g1.out
        have hW : Below w.heap.size w w1 := hA.trans (hb1.mono (by rw [two_size]; omega))
        clear hb1
        go_wp2_with (go_at_call 35; refine (weight_any _ d t _).mono ?_; rintro e w9 ⟨rfl, hb9⟩)
        go_ret2
        exact ⟨by rw [HV.out, HOK.out]; rfl, hW.trans (hb9.mono (by omega))⟩
    · have hok : costOk ⟨k, t, d⟩ ⟨k, t2, d2⟩ = false := by
        unfold costOk
        rw [hsB, Bool.false_or, Bool.and_eq_false_iff]
        exact .inr (by simp; omega)
      have hv : costV ⟨k, t, d⟩ ⟨k, t2, d2⟩ = 0 := by rw [costV, if_neg (by rw [hok]; exact Bool.false_ne_true)]
      have HOK := Lib.hid hok
      have HV := Lib.hid hv
      have t5 : (k == 5) = false := by simp; omega
      have t6 : (k == 6) = false := by simp; omega
      have t7 : (k == 7) = false := by simp; omega
      have t8 : (k == 8) = false := by simp; omega
      have t9 : (k == 9) = false := by simp; omega
      clear hok hv hs hsB hr h6
      go_enter Try.func15, Try.ntmps15
      go_wp2_with fail
      refine (same_any _ d _ d2 t t2 _).mono ?_
      rintro e w1 ⟨rfl, hb1⟩
      have HB1 := Lib.hid hb1
      have hz1 := hb1.size
      rw [two_size] at hz1
      have g0 := Lib.hid ((hb1.block w.heap.size (by rw [two_size]; omega)).trans HB.out.1)
      have g1 := Lib.hid ((hb1.block (w.heap.size + 1) (by rw [two_size]; omega)).trans HB.out.2)
      have l0 : w.heap.size < w1.heap.size := by omega
      have l1 : w.heap.size + 1 < w1.heap.size := by omega
      obtain ⟨c0, c1, c2⟩ := tbox g0.out
      obtain ⟨e0, e1, e2⟩ := tbox g1.out
      have hW : Below w.heap.size w w1 := hA.trans (hb1.mono (by rw [two_size]; omega))
      clear hb1
      go_wp2_with fail
      go_ret2
      exact ⟨by rw [HV.out, HOK.out]; rfl, hW⟩
  · have hok : costOk ⟨k, t, d⟩ ⟨k2, t2, d2⟩ = false := by
      unfold costOk
      rw [hsB, Bool.false_or, Bool.and_eq_false_iff]
      exact .inl (by simpa using hk)
    have hv : costV ⟨k, t, d⟩ ⟨k2, t2, d2⟩ = 0 := by rw [costV, if_neg (by rw [hok]; exact Bool.false_ne_true)]
    have HOK := Lib.hid hok
    have HV := Lib.hid hv
    have hkk : (k != k2) = true := by simpa using hk
    have hkb : (k == k2) = false := by simpa using hk
    clear hok hv hs hsB hk
    go_enter Try.func15, Try.ntmps15
    go_wp2_with fail
    refine (same_any _ d _ d2 t t2 _).mono ?_
    rintro e w1 ⟨rfl, hb1⟩
    have HB1 := Lib.hid hb1
    have hz1 := hb1.size
    rw [two_size] at hz1
    have g0 := Lib.hid ((hb1.block w.heap.size (by rw [two_size]; omega)).trans HB.out.1)
    have g1 := Lib.hid ((hb1.block (w.heap.size + 1) (by rw [two_size]; omega)).trans HB.out.2)
    have l0 : w.heap.size < w1.heap.size := by omega
    have l1 : w.heap.size + 1 < w1.heap.size := by omega
    obtain ⟨c0, c1, c2⟩ := tbox g0.out
    obtain ⟨e0, e1, e2⟩ := tbox g1.out
    have hW : Below w.heap.size w w1 := hA.trans (hb1.mono (by rw [two_size]; omega))
    clear hb1
    go_wp2_with fail
    go_ret2
    exact ⟨by rw [HV.out, HOK.out]; rfl, hW⟩

set_option maxHeartbeats 1000000 in
theorem rcost_any (k d k2 d2 : Int) (t t2 : ByteArray) (w : World) (ht : t.size ≤ maxLen) (ht2 : t2.size ≤ maxLen) :
    Calls Try.prog 16 #[.agg #[.int .i64 k, .string t, .int .i64 d], .agg #[.int .i64 k2, .string t2, .int .i64 d2]] w fun e w' => e = .returned (.tuple #[.int .i64 (costV ⟨k, t, d⟩ ⟨k2, t2, d2⟩), .bool (costOk ⟨k, t, d⟩ ⟨k2, t2, d2⟩)]) ∧ Below w.heap.size w w' := by
  have HB := Lib.hid (two_boxes w (.cells #[.int .i64 k, .string t, .int .i64 d] 23) (.cells #[.int .i64 k2, .string t2, .int .i64 d2] 23))
  have hA := ((Below.refl w.heap.size w).alloc (Nat.le_refl _) (.cells #[.int .i64 k, .string t, .int .i64 d] 23)).alloc (by simp) (.cells #[.int .i64 k2, .string t2, .int .i64 d2] 23)
  have h2 : ∀ {a b : Value} {e : Ending}, a = b → e = .returned a → e = .returned b := fun h h' => h ▸ h'
  by_cases hs : (k == k2 && t.toList == t2.toList) = true
  · have hok : costOk ⟨k, t, d⟩ ⟨k2, t2, d2⟩ = true := by unfold costOk sameB; rw [hs]; rfl
    have hv : costV ⟨k, t, d⟩ ⟨k2, t2, d2⟩ = 0 := by rw [costV, if_pos hok, costI, if_pos (show sameB ⟨k, t, d⟩ ⟨k2, t2, d2⟩ = true from hs)]
    have HOK := Lib.hid hok
    have HV := Lib.hid hv
    clear hok hv
    go_enter Try.func16, Try.ntmps16
    go_wp2_with fail
    refine (rsame_any _ d _ d2 t t2 _).mono ?_
    rintro e w1 ⟨rfl, hb1⟩
    have HB1 := Lib.hid hb1
    have hz1 := hb1.size
    rw [two_size] at hz1
    have g0 := Lib.hid ((hb1.block w.heap.size (by rw [two_size]; omega)).trans HB.out.1)
    have g1 := Lib.hid ((hb1.block (w.heap.size + 1) (by rw [two_size]; omega)).trans HB.out.2)
    have l0 : w.heap.size < w1.heap.size := by omega
    have l1 : w.heap.size + 1 < w1.heap.size := by omega
    obtain ⟨c0, c1, c2⟩ := tbox g0.out
    obtain ⟨e0, e1, e2⟩ := tbox g1.out
    have hW : Below w.heap.size w w1 := hA.trans (hb1.mono (by rw [two_size]; omega))
    clear hb1
    go_wp2_with fail
    go_ret2
    exact ⟨by rw [HV.out, HOK.out]; rfl, hW⟩
  have hs' : (k == k2 && t.toList == t2.toList) = false := by simpa using hs
  have hsB : sameB ⟨k, t, d⟩ ⟨k2, t2, d2⟩ = false := hs'
  by_cases hk : k = k2
  · subst hk
    have hkk : (k != k) = false := by simp
    have hq : (t.toList == t2.toList) = false := by simpa using hs'
    have hkb : (k == k) = true := by simp
    by_cases h6 : k = 6
    · subst h6
      have hok : costOk ⟨6, t, d⟩ ⟨6, t2, d2⟩ = true := by unfold costOk; rw [hsB]; rfl
      have hw6 : weightI 6 = 4 := rfl
      by_cases hkey : keyT ⟨6, t, d⟩ = keyT ⟨6, t2, d2⟩
      · have hv : costV ⟨6, t, d⟩ ⟨6, t2, d2⟩ = 1 := by rw [costV, if_pos hok, costI, if_neg (by rw [hsB]; exact Bool.false_ne_true), if_pos ⟨rfl, hkey⟩]
        have HOK := Lib.hid hok
        have HV := Lib.hid hv
        have hke : ((keyT ⟨6, t, d⟩).toList == (keyT ⟨6, t2, d2⟩).toList) = true := by rw [hkey]; simp
        have HK := Lib.hid hkey
        clear hok hv hkey hs hsB
        go_enter Try.func16, Try.ntmps16
        go_wp2_with fail
        refine (rsame_any _ d _ d2 t t2 _).mono ?_
        rintro e w1 ⟨rfl, hb1⟩
        have HB1 := Lib.hid hb1
        have hz1 := hb1.size
        rw [two_size] at hz1
        have g0 := Lib.hid ((hb1.block w.heap.size (by rw [two_size]; omega)).trans HB.out.1)
        have g1 := Lib.hid ((hb1.block (w.heap.size + 1) (by rw [two_size]; omega)).trans HB.out.2)
        have l0 : w.heap.size < w1.heap.size := by omega
        have l1 : w.heap.size + 1 < w1.heap.size := by omega
        obtain ⟨c0, c1, c2⟩ := tbox g0.out
        obtain ⟨e0, e1, e2⟩ := tbox g1.out
        have hW : Below w.heap.size w w1 := hA.trans (hb1.mono (by rw [two_size]; omega))
        clear hb1
        go_wp2_with fail
        have KP : Hid (∀ X X' : World, Below X.heap.size X X' → (X.cell? ⟨w.heap.size, 0, none⟩ = some (.int .i64 6) ∧ X.cell? ⟨w.heap.size, 1, none⟩ = some (.string t) ∧ X.cell? ⟨w.heap.size, 2, none⟩ = some (.int .i64 d) ∧ X.cell? ⟨w.heap.size + 1, 0, none⟩ = some (.int .i64 6) ∧ X.cell? ⟨w.heap.size + 1, 1, none⟩ = some (.string t2) ∧ X.cell? ⟨w.heap.size + 1, 2, none⟩ = some (.int .i64 d2) ∧ Hid (Below w1.heap.size w1 X ∧ w.heap.size < w1.heap.size ∧ w.heap.size + 1 < w1.heap.size)) → (X'.cell? ⟨w.heap.size, 0, none⟩ = some (.int .i64 6) ∧ X'.cell? ⟨w.heap.size, 1, none⟩ = some (.string t) ∧ X'.cell? ⟨w.heap.size, 2, none⟩ = some (.int .i64 d) ∧ X'.cell? ⟨w.heap.size + 1, 0, none⟩ = some (.int .i64 6) ∧ X'.cell? ⟨w.heap.size + 1, 1, none⟩ = some (.string t2) ∧ X'.cell? ⟨w.heap.size + 1, 2, none⟩ = some (.int .i64 d2) ∧ Hid (Below w1.heap.size w1 X' ∧ w.heap.size < w1.heap.size ∧ w.heap.size + 1 < w1.heap.size))) := by
          rintro X X' hb ⟨q0, q1, q2, q3, q4, q5, hH⟩
          obtain ⟨hB, l0, l1⟩ := hH.out
          have hsz := hB.size
          exact ⟨(hb.cell (p := ⟨w.heap.size, 0, none⟩) (Nat.lt_of_lt_of_le l0 hsz)).trans q0, (hb.cell (p := ⟨w.heap.size, 1, none⟩) (Nat.lt_of_lt_of_le l0 hsz)).trans q1, (hb.cell (p := ⟨w.heap.size, 2, none⟩) (Nat.lt_of_lt_of_le l0 hsz)).trans q2, (hb.cell (p := ⟨w.heap.size + 1, 0, none⟩) (Nat.lt_of_lt_of_le l1 hsz)).trans q3, (hb.cell (p := ⟨w.heap.size + 1, 1, none⟩) (Nat.lt_of_lt_of_le l1 hsz)).trans q4, (hb.cell (p := ⟨w.heap.size + 1, 2, none⟩) (Nat.lt_of_lt_of_le l1 hsz)).trans q5, ⟨hB.trans (hb.mono hsz), l0, l1⟩⟩
        have KD : Hid (∀ X : World, (X.cell? ⟨w.heap.size, 0, none⟩ = some (.int .i64 6) ∧ X.cell? ⟨w.heap.size, 1, none⟩ = some (.string t) ∧ X.cell? ⟨w.heap.size, 2, none⟩ = some (.int .i64 d) ∧ X.cell? ⟨w.heap.size + 1, 0, none⟩ = some (.int .i64 6) ∧ X.cell? ⟨w.heap.size + 1, 1, none⟩ = some (.string t2) ∧ X.cell? ⟨w.heap.size + 1, 2, none⟩ = some (.int .i64 d2) ∧ Hid (Below w1.heap.size w1 X ∧ w.heap.size < w1.heap.size ∧ w.heap.size + 1 < w1.heap.size)) → (X.drew.cell? ⟨w.heap.size, 0, none⟩ = some (.int .i64 6) ∧ X.drew.cell? ⟨w.heap.size, 1, none⟩ = some (.string t) ∧ X.drew.cell? ⟨w.heap.size, 2, none⟩ = some (.int .i64 d) ∧ X.drew.cell? ⟨w.heap.size + 1, 0, none⟩ = some (.int .i64 6) ∧ X.drew.cell? ⟨w.heap.size + 1, 1, none⟩ = some (.string t2) ∧ X.drew.cell? ⟨w.heap.size + 1, 2, none⟩ = some (.int .i64 d2) ∧ Hid (Below w1.heap.size w1 X.drew ∧ w.heap.size < w1.heap.size ∧ w.heap.size + 1 < w1.heap.size))) := by
          rintro X ⟨q0, q1, q2, q3, q4, q5, hH⟩
          exact ⟨q0, q1, q2, q3, q4, q5, ⟨below_drewN hH.out.1 1, hH.out.2⟩⟩
        have K0 : Hid (w1.cell? ⟨w.heap.size, 0, none⟩ = some (.int .i64 6) ∧ w1.cell? ⟨w.heap.size, 1, none⟩ = some (.string t) ∧ w1.cell? ⟨w.heap.size, 2, none⟩ = some (.int .i64 d) ∧ w1.cell? ⟨w.heap.size + 1, 0, none⟩ = some (.int .i64 6) ∧ w1.cell? ⟨w.heap.size + 1, 1, none⟩ = some (.string t2) ∧ w1.cell? ⟨w.heap.size + 1, 2, none⟩ = some (.int .i64 d2) ∧ Hid (Below w1.heap.size w1 w1 ∧ w.heap.size < w1.heap.size ∧ w.heap.size + 1 < w1.heap.size)) := ⟨(c0), (c1), (c2), (e0), (e1), (e2), ⟨Below.refl _ _, (l0), (l1)⟩⟩
        go_region_held3 (fun w' => w'.cell? ⟨w.heap.size, 0, none⟩ = some (.int .i64 6) ∧ w'.cell? ⟨w.heap.size, 1, none⟩ = some (.string t) ∧ w'.cell? ⟨w.heap.size, 2, none⟩ = some (.int .i64 d) ∧ w'.cell? ⟨w.heap.size + 1, 0, none⟩ = some (.int .i64 6) ∧ w'.cell? ⟨w.heap.size + 1, 1, none⟩ = some (.string t2) ∧ w'.cell? ⟨w.heap.size + 1, 2, none⟩ = some (.int .i64 d2) ∧ Hid (Below w1.heap.size w1 w' ∧ w.heap.size < w1.heap.size ∧ w.heap.size + 1 < w1.heap.size))
          (first | exact K0.out | exact KD.out _ K0.out | assumption | exact KP.out _ _ hb' (KD.out _ K0.out) | (refine KP.out _ _ hb' ?_; with_reducible_and_instances assumption) | (refine KD.out _ ?_; with_reducible_and_instances assumption))
          (first
            | (go_at_call 36; refine (rkey_any _ _ _ _ (by assumption)).mono ?_; rintro e w' ⟨rfl, hb'⟩))
        rename_i hh
        obtain ⟨t0, t1, t2, t3, t4, t5, tH⟩ := hh
        clear KP KD K0
        go_wp2_with fail
        go_ret2
        exact ⟨by rw [HV.out, HOK.out]; rfl, hW.trans (tH.out.1.mono (by omega))⟩
      · have hv : costV ⟨6, t, d⟩ ⟨6, t2, d2⟩ = 4 := by rw [costV, if_pos hok, costI, if_neg (by rw [hsB]; exact Bool.false_ne_true), if_neg (fun h => hkey h.2)]; rfl
        have HOK := Lib.hid hok
        have HV := Lib.hid hv
        have hke : ((keyT ⟨6, t, d⟩).toList == (keyT ⟨6, t2, d2⟩).toList) = false := by
          rw [beq_eq_false_iff_ne]
          exact fun h => hkey (toList_inj h)
        clear hok hv hkey hs hsB
        go_enter Try.func16, Try.ntmps16
        go_wp2_with fail
        refine (rsame_any _ d _ d2 t t2 _).mono ?_
        rintro e w1 ⟨rfl, hb1⟩
        have HB1 := Lib.hid hb1
        have hz1 := hb1.size
        rw [two_size] at hz1
        have g0 := Lib.hid ((hb1.block w.heap.size (by rw [two_size]; omega)).trans HB.out.1)
        have g1 := Lib.hid ((hb1.block (w.heap.size + 1) (by rw [two_size]; omega)).trans HB.out.2)
        have l0 : w.heap.size < w1.heap.size := by omega
        have l1 : w.heap.size + 1 < w1.heap.size := by omega
        obtain ⟨c0, c1, c2⟩ := tbox g0.out
        obtain ⟨e0, e1, e2⟩ := tbox g1.out
        have hW : Below w.heap.size w w1 := hA.trans (hb1.mono (by rw [two_size]; omega))
        clear hb1
        go_wp2_with fail
        have KP : Hid (∀ X X' : World, Below X.heap.size X X' → (X.cell? ⟨w.heap.size, 0, none⟩ = some (.int .i64 6) ∧ X.cell? ⟨w.heap.size, 1, none⟩ = some (.string t) ∧ X.cell? ⟨w.heap.size, 2, none⟩ = some (.int .i64 d) ∧ X.cell? ⟨w.heap.size + 1, 0, none⟩ = some (.int .i64 6) ∧ X.cell? ⟨w.heap.size + 1, 1, none⟩ = some (.string t2) ∧ X.cell? ⟨w.heap.size + 1, 2, none⟩ = some (.int .i64 d2) ∧ Hid (Below w1.heap.size w1 X ∧ w.heap.size < w1.heap.size ∧ w.heap.size + 1 < w1.heap.size)) → (X'.cell? ⟨w.heap.size, 0, none⟩ = some (.int .i64 6) ∧ X'.cell? ⟨w.heap.size, 1, none⟩ = some (.string t) ∧ X'.cell? ⟨w.heap.size, 2, none⟩ = some (.int .i64 d) ∧ X'.cell? ⟨w.heap.size + 1, 0, none⟩ = some (.int .i64 6) ∧ X'.cell? ⟨w.heap.size + 1, 1, none⟩ = some (.string t2) ∧ X'.cell? ⟨w.heap.size + 1, 2, none⟩ = some (.int .i64 d2) ∧ Hid (Below w1.heap.size w1 X' ∧ w.heap.size < w1.heap.size ∧ w.heap.size + 1 < w1.heap.size))) := by
          rintro X X' hb ⟨q0, q1, q2, q3, q4, q5, hH⟩
          obtain ⟨hB, l0, l1⟩ := hH.out
          have hsz := hB.size
          exact ⟨(hb.cell (p := ⟨w.heap.size, 0, none⟩) (Nat.lt_of_lt_of_le l0 hsz)).trans q0, (hb.cell (p := ⟨w.heap.size, 1, none⟩) (Nat.lt_of_lt_of_le l0 hsz)).trans q1, (hb.cell (p := ⟨w.heap.size, 2, none⟩) (Nat.lt_of_lt_of_le l0 hsz)).trans q2, (hb.cell (p := ⟨w.heap.size + 1, 0, none⟩) (Nat.lt_of_lt_of_le l1 hsz)).trans q3, (hb.cell (p := ⟨w.heap.size + 1, 1, none⟩) (Nat.lt_of_lt_of_le l1 hsz)).trans q4, (hb.cell (p := ⟨w.heap.size + 1, 2, none⟩) (Nat.lt_of_lt_of_le l1 hsz)).trans q5, ⟨hB.trans (hb.mono hsz), l0, l1⟩⟩
        have KD : Hid (∀ X : World, (X.cell? ⟨w.heap.size, 0, none⟩ = some (.int .i64 6) ∧ X.cell? ⟨w.heap.size, 1, none⟩ = some (.string t) ∧ X.cell? ⟨w.heap.size, 2, none⟩ = some (.int .i64 d) ∧ X.cell? ⟨w.heap.size + 1, 0, none⟩ = some (.int .i64 6) ∧ X.cell? ⟨w.heap.size + 1, 1, none⟩ = some (.string t2) ∧ X.cell? ⟨w.heap.size + 1, 2, none⟩ = some (.int .i64 d2) ∧ Hid (Below w1.heap.size w1 X ∧ w.heap.size < w1.heap.size ∧ w.heap.size + 1 < w1.heap.size)) → (X.drew.cell? ⟨w.heap.size, 0, none⟩ = some (.int .i64 6) ∧ X.drew.cell? ⟨w.heap.size, 1, none⟩ = some (.string t) ∧ X.drew.cell? ⟨w.heap.size, 2, none⟩ = some (.int .i64 d) ∧ X.drew.cell? ⟨w.heap.size + 1, 0, none⟩ = some (.int .i64 6) ∧ X.drew.cell? ⟨w.heap.size + 1, 1, none⟩ = some (.string t2) ∧ X.drew.cell? ⟨w.heap.size + 1, 2, none⟩ = some (.int .i64 d2) ∧ Hid (Below w1.heap.size w1 X.drew ∧ w.heap.size < w1.heap.size ∧ w.heap.size + 1 < w1.heap.size))) := by
          rintro X ⟨q0, q1, q2, q3, q4, q5, hH⟩
          exact ⟨q0, q1, q2, q3, q4, q5, ⟨below_drewN hH.out.1 1, hH.out.2⟩⟩
        have K0 : Hid (w1.cell? ⟨w.heap.size, 0, none⟩ = some (.int .i64 6) ∧ w1.cell? ⟨w.heap.size, 1, none⟩ = some (.string t) ∧ w1.cell? ⟨w.heap.size, 2, none⟩ = some (.int .i64 d) ∧ w1.cell? ⟨w.heap.size + 1, 0, none⟩ = some (.int .i64 6) ∧ w1.cell? ⟨w.heap.size + 1, 1, none⟩ = some (.string t2) ∧ w1.cell? ⟨w.heap.size + 1, 2, none⟩ = some (.int .i64 d2) ∧ Hid (Below w1.heap.size w1 w1 ∧ w.heap.size < w1.heap.size ∧ w.heap.size + 1 < w1.heap.size)) := ⟨(c0), (c1), (c2), (e0), (e1), (e2), ⟨Below.refl _ _, (l0), (l1)⟩⟩
        go_region_held3 (fun w' => w'.cell? ⟨w.heap.size, 0, none⟩ = some (.int .i64 6) ∧ w'.cell? ⟨w.heap.size, 1, none⟩ = some (.string t) ∧ w'.cell? ⟨w.heap.size, 2, none⟩ = some (.int .i64 d) ∧ w'.cell? ⟨w.heap.size + 1, 0, none⟩ = some (.int .i64 6) ∧ w'.cell? ⟨w.heap.size + 1, 1, none⟩ = some (.string t2) ∧ w'.cell? ⟨w.heap.size + 1, 2, none⟩ = some (.int .i64 d2) ∧ Hid (Below w1.heap.size w1 w' ∧ w.heap.size < w1.heap.size ∧ w.heap.size + 1 < w1.heap.size))
          (first | exact K0.out | exact KD.out _ K0.out | assumption | exact KP.out _ _ hb' (KD.out _ K0.out) | (refine KP.out _ _ hb' ?_; with_reducible_and_instances assumption) | (refine KD.out _ ?_; with_reducible_and_instances assumption))
          (first
            | (go_at_call 36; refine (rkey_any _ _ _ _ (by assumption)).mono ?_; rintro e w' ⟨rfl, hb'⟩))
        rename_i hh
        obtain ⟨t0, t1, t2, t3, t4, t5, tH⟩ := hh
        clear KP KD K0
        go_wp2_with (go_at_call 37; refine (rweight_any 6 d t _).mono ?_; rintro e w9 ⟨rfl, hb9⟩)
        go_ret2
        have hz9 := tH.out.1.size
        exact ⟨by rw [HV.out, HOK.out]; rfl, (hW.trans (tH.out.1.mono (by omega))).trans (hb9.mono (by omega))⟩
    by_cases hr : 5 ≤ k ∧ k ≤ 9
    · have hok : costOk ⟨k, t, d⟩ ⟨k, t2, d2⟩ = true := by unfold costOk; rw [hsB]; simp; omega
      have hv : costV ⟨k, t, d⟩ ⟨k, t2, d2⟩ = weightI k := by rw [costV, if_pos hok, costI, if_neg (by rw [hsB]; exact Bool.false_ne_true), if_neg (fun h => h6 h.1)]
      have HOK := Lib.hid hok
      have HV := Lib.hid hv
      clear hok hv hs hsB
      rcases (show k = 5 ∨ k = 7 ∨ k = 8 ∨ k = 9 from by omega) with rfl | rfl | rfl | rfl
      all_goals
        go_enter Try.func16, Try.ntmps16
        go_wp2_with fail
        refine (rsame_any _ d _ d2 t t2 _).mono ?_
        rintro e w1 ⟨rfl, hb1⟩
        have HB1 := Lib.hid hb1
        have hz1 := hb1.size
        rw [two_size] at hz1
        have g0 := Lib.hid ((hb1.block w.heap.size (by rw [two_size]; omega)).trans HB.out.1)
        have g1 := Lib.hid ((hb1.block (w.heap.size + 1) (by rw [two_size]; omega)).trans HB.out.2)
        have l0 : w.heap.size < w1.heap.size := by omega
        have l1 : w.heap.size + 1 < w1.heap.size := by omega
        obtain ⟨c0, c1, c2⟩ := tbox g0.out
        obtain ⟨e0, e1, e2⟩ := tbox g1.out
        have hW : Below w.heap.size w w1 := hA.trans (hb1.mono (by rw [two_size]; omega))
        clear hb1
        go_wp2_with fail
        go_quiet (fail)
        go_wp2_with (go_at_call 37; refine (rweight_any _ d t _).mono ?_; rintro e w9 ⟨rfl, hb9⟩)
        go_ret2
        exact ⟨by rw [HV.out, HOK.out]; rfl, hW.trans ((below_drewN (Below.refl _ w1) _).trans (hb9.mono (by show w.heap.size ≤ w1.heap.size; omega)))⟩
    · have hok : costOk ⟨k, t, d⟩ ⟨k, t2, d2⟩ = false := by
        unfold costOk
        rw [hsB, Bool.false_or, Bool.and_eq_false_iff]
        exact .inr (by simp; omega)
      have hv : costV ⟨k, t, d⟩ ⟨k, t2, d2⟩ = 0 := by rw [costV, if_neg (by rw [hok]; exact Bool.false_ne_true)]
      have HOK := Lib.hid hok
      have HV := Lib.hid hv
      have t5 : (k == 5) = false := by simp; omega
      have t6 : (k == 6) = false := by simp; omega
      have t7 : (k == 7) = false := by simp; omega
      have t8 : (k == 8) = false := by simp; omega
      have t9 : (k == 9) = false := by simp; omega
      clear hok hv hs hsB h6
      rcases (show k < 5 ∨ 9 < k from by omega) with hr1 | hr1
      all_goals
        go_enter Try.func16, Try.ntmps16
        go_wp2_with fail
        refine (rsame_any _ d _ d2 t t2 _).mono ?_
        rintro e w1 ⟨rfl, hb1⟩
        have HB1 := Lib.hid hb1
        have hz1 := hb1.size
        rw [two_size] at hz1
        have g0 := Lib.hid ((hb1.block w.heap.size (by rw [two_size]; omega)).trans HB.out.1)
        have g1 := Lib.hid ((hb1.block (w.heap.size + 1) (by rw [two_size]; omega)).trans HB.out.2)
        have l0 : w.heap.size < w1.heap.size := by omega
        have l1 : w.heap.size + 1 < w1.heap.size := by omega
        obtain ⟨c0, c1, c2⟩ := tbox g0.out
        obtain ⟨e0, e1, e2⟩ := tbox g1.out
        have hW : Below w.heap.size w w1 := hA.trans (hb1.mono (by rw [two_size]; omega))
        clear hb1
        go_wp2_with fail
        go_ret2
        exact ⟨by rw [HV.out, HOK.out]; rfl, hW⟩
  · have hok : costOk ⟨k, t, d⟩ ⟨k2, t2, d2⟩ = false := by
      unfold costOk
      rw [hsB, Bool.false_or, Bool.and_eq_false_iff]
      exact .inl (by simpa using hk)
    have hv : costV ⟨k, t, d⟩ ⟨k2, t2, d2⟩ = 0 := by rw [costV, if_neg (by rw [hok]; exact Bool.false_ne_true)]
    have HOK := Lib.hid hok
    have HV := Lib.hid hv
    have hkk : (k != k2) = true := by simpa using hk
    have hkb : (k == k2) = false := by simpa using hk
    clear hok hv hs hsB hk
    go_enter Try.func16, Try.ntmps16
    go_wp2_with fail
    refine (rsame_any _ d _ d2 t t2 _).mono ?_
    rintro e w1 ⟨rfl, hb1⟩
    have HB1 := Lib.hid hb1
    have hz1 := hb1.size
    rw [two_size] at hz1
    have g0 := Lib.hid ((hb1.block w.heap.size (by rw [two_size]; omega)).trans HB.out.1)
    have g1 := Lib.hid ((hb1.block (w.heap.size + 1) (by rw [two_size]; omega)).trans HB.out.2)
    have l0 : w.heap.size < w1.heap.size := by omega
    have l1 : w.heap.size + 1 < w1.heap.size := by omega
    obtain ⟨c0, c1, c2⟩ := tbox g0.out
    obtain ⟨e0, e1, e2⟩ := tbox g1.out
    have hW : Below w.heap.size w w1 := hA.trans (hb1.mono (by rw [two_size]; omega))
    clear hb1
    go_wp2_with fail
    go_ret2
    exact ⟨by rw [HV.out, HOK.out]; rfl, hW⟩

end Go.Proofs.Yteccphcophjhpaa
