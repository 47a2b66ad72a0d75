
/-
  The table of rests: the reference's walk.
-/
import Derived.Test.YteccphcophjhpaaTab
import Derived.Test.YteccphcophjhpaaSurB
namespace Go.Proofs.Yteccphcophjhpaa
open Go.RowKit

set_option maxRecDepth 100000 in
set_option maxHeartbeats 16000000 in
theorem table_any (a b : List Tk) (va vb : Value) (w : World) (ha : RdT w va a) (hb : RdT w vb b) (hla : a.length ≤ 100000) (hlb : b.length ≤ 100000) (hia : ∀ x ∈ a, TkD x) (hib : ∀ x ∈ b, TkD x) :
    Calls Try.prog 41 #[va, vb] w (TabRet (a.length + 1) (b.length + 1) (tabI a b) w) := by
  obtain ⟨A, c, rfl, _, _⟩ := ha.shape
  obtain ⟨A2, c2, rfl, _, _⟩ := hb.shape
  have HA := Lib.hid ha
  have HB := Lib.hid hb
  have HIA := Lib.hid hia
  have HIB := Lib.hid hib
  have hmk := fun w => run_make_row' (P := Try.prog) 24 3 (.int .i64 0) 8 Try.underlying24 int_info' rfl .i64 .i64 (b.length + 1) (by omega) (by omega) w
  have hmk2 := fun w => run_make_row' (P := Try.prog) 64 24 (.slice none 0 0) 24 Try.underlying64 ints_info rfl .i64 .i64 (a.length + 1) (by omega) (by omega) w
  have hcast : ((b.length + 1 : Nat) : Int) = (b.length : Int) + 1 := by omega
  have hcast2 : ((a.length + 1 : Nat) : Int) = (a.length : Int) + 1 := by omega
  rw [hcast] at hmk
  rw [hcast2] at hmk2
  clear ha hb hia hib hcast hcast2
  have w1a : IntKind.i64.wrap ((a.length : Int) + 1) = (a.length : Int) + 1 := by rw [IntKind.wrap_i64]; omega
  have w1b : IntKind.i64.wrap ((b.length : Int) + 1) = (b.length : Int) + 1 := by rw [IntKind.wrap_i64]; omega
  go_enter Try.func41, Try.ntmps41
  go_wp2_with fail
  go_loopw [6] (fun iv wr => ∃ (lo : Nat) (g : Nat → Nat), lo ≤ a.length + 1 ∧ iv = .int .i64 ((lo : Int) - 1) ∧ Hid (Tab wr w.heap.size w.heap.size g (a.length + 1) (b.length + 1) lo (tabI a b)) ∧ Hid (Below w.heap.size w wr)) (fun iv _ => ((intOf iv) + 1).toNat)
  case atStart =>
    exact ⟨a.length + 1, fun _ => 0, Nat.le_refl _, by go_num, Tab.start (World.rowIs_made w (.slice none 0 0) (a.length + 1) 24) (Nat.le_refl _), (Below.refl _ _).alloc (Nat.le_refl _) _⟩
  case round =>
    obtain ⟨lo, g0, hlo, rfl, HT0, HB0⟩ := hrel
    cases lo with
    | zero =>
      have e0 : ¬ (0 : Int) ≤ ((0 : Nat) : Int) - 1 := by omega
      go_wp2_with fail
      go_ret
      exact ⟨_, g0, rfl, HT0.out, HB0.out⟩
    | succ i =>
      have ei : (((i + 1 : Nat) : Int) - 1) = (i : Int) := by omega
      rw [ei]
      have e1 : (0 : Int) ≤ (i : Int) := by omega
      have e2 : (i : Int) < (a.length : Int) + 1 := by omega
      have hgl := HT0.out.outer.lt
      have r0 := (HT0.out.outer.alloc (.cells (madeCells #[.int .i64 0] (b.length + 1)) 3)).cell (i := i) (by omega)
      rw [if_neg (show ¬ i + 1 ≤ i by omega)] at r0
      have rf := (HT0.out.outer.alloc (.cells (madeCells #[.int .i64 0] (b.length + 1)) 3)).frozen i
      have hsz0 := HB0.out.size
      have HTP := Lib.hid (HT0.out.push (i := i) (by omega) hsz0)
      have HBP := Lib.hid ((HB0.out.alloc hsz0 (.cells (madeCells #[.int .i64 0] (b.length + 1)) 3)).setCell (p := ⟨w.heap.size, i, none⟩) (Nat.le_refl _) (.slice (some ⟨wr.heap.size, 0, none⟩) (b.length + 1) (b.length + 1)))
      clear HT0 HB0 hgl
      go_wp2_with fail
      generalize ((wr.alloc (.cells (madeCells #[.int .i64 0] (b.length + 1)) 3)).setCell ⟨w.heap.size, i, none⟩ (.slice (some ⟨wr.heap.size, 0, none⟩) (b.length + 1) (b.length + 1))) = ws at HTP HBP
      have HTQ := Lib.hid (HTP.out.congr (F' := cutT (tabI a b) i (b.length + 1)) fun j k h1 h2 h3 => by
        unfold cutT
        by_cases hj : j = i
        · rw [if_pos hj, if_pos ⟨hj, h3⟩]
        · rw [if_neg hj, if_neg (fun e => hj e.1)])
      clear HTP r0 rf
      generalize (fun j => if j = i then wr.heap.size else g0 j) = g at HTQ
      have HBQ := HBP
      clear HBP hsz0
      go_loopw [7] (fun kv wy => ∃ q : Nat, q ≤ b.length + 1 ∧ kv = .int .i64 ((q : Int) - 1) ∧ Hid (Tab wy w.heap.size w.heap.size g (a.length + 1) (b.length + 1) i (cutT (tabI a b) i q)) ∧ Hid (Below w.heap.size w wy)) (fun kv _ => ((intOf kv) + 1).toNat)
      case atStart => exact ⟨b.length + 1, Nat.le_refl _, by go_num, HTQ.out, HBQ.out⟩
      case round =>
        clear HTQ HBQ
        obtain ⟨wy, rfl⟩ : ∃ wy : World, wy = wr := ⟨_, rfl⟩
        obtain ⟨q, hq, rfl, HT, HBW⟩ := hrel
        cases q with
        | zero =>
          have e0 : ¬ (0 : Int) ≤ ((0 : Nat) : Int) - 1 := by omega
          have HTE := Lib.hid (HT.out.congr (F' := tabI a b) fun j k _ _ _ => by unfold cutT; rw [if_neg (by omega)])
          clear HT
          go_wp2_with fail
          exact ⟨⟨i, g, by omega, by go_num, HTE.out, HBW.out⟩, by simp [intOf]; try omega⟩
        | succ q =>
          have eq : (((q + 1 : Nat) : Int) - 1) = (q : Int) := by omega
          rw [eq]
          have f0 : (0 : Int) ≤ (q : Int) := by omega
          have f1 : (q : Int) < (b.length : Int) + 1 := by omega
          have e3 : IntKind.i64.wrap ((i : Int) + 1) = (i : Int) + 1 := by rw [IntKind.wrap_i64]; omega
          have e4 : ((i : Int) + 1).toNat = i + 1 := by omega
          have e5 : 0 ≤ (i : Int) + 1 := by omega
          have f3 : IntKind.i64.wrap ((q : Int) + 1) = (q : Int) + 1 := by rw [IntKind.wrap_i64]; omega
          have f4 : ((q : Int) + 1).toNat = q + 1 := by omega
          have f5 : 0 ≤ (q : Int) + 1 := by omega
          have HFIN : Hid (∀ (W : World) (z : Int), Tab W w.heap.size w.heap.size g (a.length + 1) (b.length + 1) i (cutT (tabI a b) i (q + 1)) → z = tabI a b i q → Tab (W.setCell ⟨g i, q, none⟩ (.int .i64 z)) w.heap.size w.heap.size g (a.length + 1) (b.length + 1) i (cutT (tabI a b) i q)) := fun W z h hz => (h.set i q (Nat.le_refl _) (by omega) z).congr fun j k h1 h2 h3 => by
            unfold cutT
            by_cases hj : j = i ∧ k = q
            · rw [if_pos hj, if_neg (by omega), hz, hj.1, hj.2]
            · rw [if_neg hj]
              by_cases hk : j = i ∧ k < q
              · rw [if_pos (by omega), if_pos hk]
              · rw [if_neg (by omega), if_neg hk]
          have HC0 : Hid (cutT (tabI a b) i (q + 1) i q = 0) := by show cutT _ _ _ _ _ = _; unfold cutT; rw [if_pos ⟨rfl, by omega⟩]
          have HC1 : Hid (∀ k, cutT (tabI a b) i (q + 1) (i + 1) k = tabI a b (i + 1) k) := fun k => by unfold cutT; rw [if_neg (by omega)]
          have HC2 : Hid (cutT (tabI a b) i (q + 1) i (q + 1) = tabI a b i (q + 1)) := by show cutT _ _ _ _ _ = _; unfold cutT; rw [if_neg (by omega)]
          have t00 := tab_bd a b i q
          have t10 := tab_bd a b (i + 1) q
          have t01 := tab_bd a b i (q + 1)
          have t11 := tab_bd a b (i + 1) (q + 1)
          have hsz := HBW.out.size
          by_cases hi : i < a.length
          · obtain ⟨bb, ob, rfl, hbl, q1, q2, q3⟩ := RdT.at_ HA.out i hi
            rw [← HBW.out.cell (p := ⟨bb, ob + i * 3, none⟩) hbl] at q1
            rw [← HBW.out.cell (p := ⟨bb, ob + i * 3 + 1, none⟩) hbl] at q2
            rw [← HBW.out.cell (p := ⟨bb, ob + i * 3 + 2, none⟩) hbl] at q3
            have hl0 : bb < wy.heap.size := by omega
            have hsx := single_bd a[i]
            have hxi := HIA.out a[i] (List.getElem_mem hi)
            have i1 : (i : Int) < (a.length : Int) := by omega
            have e6 : (i : Int) + 1 < (a.length : Int) + 1 := by omega
            have i2 : ((i : Int) == (a.length : Int)) = false := by simp; omega
            by_cases hk : q < b.length
            · obtain ⟨b2, o2, rfl, hbl2, p1, p2, p3⟩ := RdT.at_ HB.out q hk
              rw [← HBW.out.cell (p := ⟨b2, o2 + q * 3, none⟩) hbl2] at p1
              rw [← HBW.out.cell (p := ⟨b2, o2 + q * 3 + 1, none⟩) hbl2] at p2
              rw [← HBW.out.cell (p := ⟨b2, o2 + q * 3 + 2, none⟩) hbl2] at p3
              have hl2 : b2 < wy.heap.size := by omega
              have hsy := single_bd b[q]
              have hyi := HIB.out b[q] (List.getElem_mem hk)
              have k1 : (q : Int) < (b.length : Int) := by omega
              have f6 : (q : Int) + 1 < (b.length : Int) + 1 := by omega
              have k2 : ((q : Int) == (b.length : Int)) = false := by simp; omega
              have HOK := Lib.hid (tab_ok a b i q hi hk)
              have HNO := Lib.hid (tab_no a b i q hi hk)
              generalize a[i] = x at q1 q2 q3 hsx hxi HOK HNO
              obtain ⟨xk, xt, xd⟩ := x
              have hxt : xt.size ≤ maxLen := hxi.1
              clear hxi
              simp only at q1 q2 q3
              generalize b[q] = y at p1 p2 p3 hsy hyi HOK HNO
              obtain ⟨yk, yt, yd⟩ := y
              have hyt : yt.size ≤ maxLen := hyi.1
              clear hyi
              simp only at p1 p2 p3
              have hcb := costV_bd ⟨xk, xt, xd⟩ ⟨yk, yt, yd⟩
              have u1 : IntKind.i64.wrap (singleI ⟨xk, xt, xd⟩ + tabI a b (i + 1) q) = singleI ⟨xk, xt, xd⟩ + tabI a b (i + 1) q := by rw [IntKind.wrap_i64]; omega
              have u2 : IntKind.i64.wrap (singleI ⟨yk, yt, yd⟩ + tabI a b i (q + 1)) = singleI ⟨yk, yt, yd⟩ + tabI a b i (q + 1) := by rw [IntKind.wrap_i64]; omega
              have u3 : IntKind.i64.wrap (costV ⟨xk, xt, xd⟩ ⟨yk, yt, yd⟩ + tabI a b (i + 1) (q + 1)) = costV ⟨xk, xt, xd⟩ ⟨yk, yt, yd⟩ + tabI a b (i + 1) (q + 1) := by rw [IntKind.wrap_i64]; omega
              by_cases hc : costOk ⟨xk, xt, xd⟩ ⟨yk, yt, yd⟩ = true
              · have HV := Lib.hid (costV_ok hc)
                have HEQ := HOK.out hc
                rw [← HV.out] at HEQ
                have HEQ' := Lib.hid HEQ
                clear HEQ HOK HNO
                go_wp2_with fail
                have KP : Hid (∀ X X' : World, Below X.heap.size X X' → (X.cell? ⟨bb, ob + i * 3, none⟩ = some (.int .i64 xk) ∧ X.cell? ⟨bb, ob + i * 3 + 1, none⟩ = some (.string xt) ∧ X.cell? ⟨bb, ob + i * 3 + 2, none⟩ = some (.int .i64 xd) ∧ X.cell? ⟨b2, o2 + q * 3, none⟩ = some (.int .i64 yk) ∧ X.cell? ⟨b2, o2 + q * 3 + 1, none⟩ = some (.string yt) ∧ X.cell? ⟨b2, o2 + q * 3 + 2, none⟩ = some (.int .i64 yd) ∧ Hid (Below wy.heap.size wy X ∧ bb < wy.heap.size ∧ b2 < wy.heap.size)) → (X'.cell? ⟨bb, ob + i * 3, none⟩ = some (.int .i64 xk) ∧ X'.cell? ⟨bb, ob + i * 3 + 1, none⟩ = some (.string xt) ∧ X'.cell? ⟨bb, ob + i * 3 + 2, none⟩ = some (.int .i64 xd) ∧ X'.cell? ⟨b2, o2 + q * 3, none⟩ = some (.int .i64 yk) ∧ X'.cell? ⟨b2, o2 + q * 3 + 1, none⟩ = some (.string yt) ∧ X'.cell? ⟨b2, o2 + q * 3 + 2, none⟩ = some (.int .i64 yd) ∧ Hid (Below wy.heap.size wy X' ∧ bb < wy.heap.size ∧ b2 < wy.heap.size))) := by
                  rintro X X' hb ⟨q0, q1, q2, q3, q4, q5, hH⟩
                  obtain ⟨hB, l0, l1⟩ := hH.out
                  have hsz := hB.size
                  exact ⟨(hb.cell (p := ⟨bb, ob + i * 3, none⟩) (Nat.lt_of_lt_of_le l0 hsz)).trans q0, (hb.cell (p := ⟨bb, ob + i * 3 + 1, none⟩) (Nat.lt_of_lt_of_le l0 hsz)).trans q1, (hb.cell (p := ⟨bb, ob + i * 3 + 2, none⟩) (Nat.lt_of_lt_of_le l0 hsz)).trans q2, (hb.cell (p := ⟨b2, o2 + q * 3, none⟩) (Nat.lt_of_lt_of_le l1 hsz)).trans q3, (hb.cell (p := ⟨b2, o2 + q * 3 + 1, none⟩) (Nat.lt_of_lt_of_le l1 hsz)).trans q4, (hb.cell (p := ⟨b2, o2 + q * 3 + 2, none⟩) (Nat.lt_of_lt_of_le l1 hsz)).trans q5, ⟨hB.trans (hb.mono hsz), l0, l1⟩⟩
                have KD : Hid (∀ X : World, (X.cell? ⟨bb, ob + i * 3, none⟩ = some (.int .i64 xk) ∧ X.cell? ⟨bb, ob + i * 3 + 1, none⟩ = some (.string xt) ∧ X.cell? ⟨bb, ob + i * 3 + 2, none⟩ = some (.int .i64 xd) ∧ X.cell? ⟨b2, o2 + q * 3, none⟩ = some (.int .i64 yk) ∧ X.cell? ⟨b2, o2 + q * 3 + 1, none⟩ = some (.string yt) ∧ X.cell? ⟨b2, o2 + q * 3 + 2, none⟩ = some (.int .i64 yd) ∧ Hid (Below wy.heap.size wy X ∧ bb < wy.heap.size ∧ b2 < wy.heap.size)) → (X.drew.cell? ⟨bb, ob + i * 3, none⟩ = some (.int .i64 xk) ∧ X.drew.cell? ⟨bb, ob + i * 3 + 1, none⟩ = some (.string xt) ∧ X.drew.cell? ⟨bb, ob + i * 3 + 2, none⟩ = some (.int .i64 xd) ∧ X.drew.cell? ⟨b2, o2 + q * 3, none⟩ = some (.int .i64 yk) ∧ X.drew.cell? ⟨b2, o2 + q * 3 + 1, none⟩ = some (.string yt) ∧ X.drew.cell? ⟨b2, o2 + q * 3 + 2, none⟩ = some (.int .i64 yd) ∧ Hid (Below wy.heap.size wy X.drew ∧ bb < wy.heap.size ∧ b2 < wy.heap.size))) := by
                  rintro X ⟨q0, q1, q2, q3, q4, q5, hH⟩
                  exact ⟨q0, q1, q2, q3, q4, q5, ⟨below_drewN hH.out.1 1, hH.out.2⟩⟩
                have K0 : Hid (wy.cell? ⟨bb, ob + i * 3, none⟩ = some (.int .i64 xk) ∧ wy.cell? ⟨bb, ob + i * 3 + 1, none⟩ = some (.string xt) ∧ wy.cell? ⟨bb, ob + i * 3 + 2, none⟩ = some (.int .i64 xd) ∧ wy.cell? ⟨b2, o2 + q * 3, none⟩ = some (.int .i64 yk) ∧ wy.cell? ⟨b2, o2 + q * 3 + 1, none⟩ = some (.string yt) ∧ wy.cell? ⟨b2, o2 + q * 3 + 2, none⟩ = some (.int .i64 yd) ∧ Hid (Below wy.heap.size wy wy ∧ bb < wy.heap.size ∧ b2 < wy.heap.size)) := ⟨(q1), (q2), (q3), (p1), (p2), (p3), ⟨Below.refl _ _, (hl0), (hl2)⟩⟩
                go_region_held3 (fun w' => w'.cell? ⟨bb, ob + i * 3, none⟩ = some (.int .i64 xk) ∧ w'.cell? ⟨bb, ob + i * 3 + 1, none⟩ = some (.string xt) ∧ w'.cell? ⟨bb, ob + i * 3 + 2, none⟩ = some (.int .i64 xd) ∧ w'.cell? ⟨b2, o2 + q * 3, none⟩ = some (.int .i64 yk) ∧ w'.cell? ⟨b2, o2 + q * 3 + 1, none⟩ = some (.string yt) ∧ w'.cell? ⟨b2, o2 + q * 3 + 2, none⟩ = some (.int .i64 yd) ∧ Hid (Below wy.heap.size wy w' ∧ bb < wy.heap.size ∧ b2 < wy.heap.size))
                  (first | exact K0.out | exact KD.out _ K0.out | assumption | exact KP.out _ _ hb' (KD.out _ K0.out) | (refine KP.out _ _ hb' ?_; with_reducible_and_instances assumption) | (refine KD.out _ ?_; with_reducible_and_instances assumption))
                  (first
                    | (go_at_call 16; refine (rcost_any xk xd yk yd xt yt _ hxt hyt).mono ?_; rintro e w' ⟨rfl, hb'⟩))
                rename_i hh
                obtain ⟨t0, t1, t2, t3, t4, t5, tH⟩ := hh
                clear KP KD K0
                obtain ⟨wa, rfl⟩ : ∃ wz : World, wz = w' := ⟨_, rfl⟩
                have T1 := Lib.hid (HT.out.below tH.out.1)
                have B1 := Lib.hid (HBW.out.trans (tH.out.1.mono HBW.out.size))
                have hz1 := tH.out.1.size
                clear q1 q2 q3 hl0 p1 p2 p3 hl2
                have q1 := t0
                have q2 := t1
                have q3 := t2
                have p1 := t3
                have p2 := t4
                have p3 := t5
                have hl0 : bb < wa.heap.size := by omega
                have hl2 : b2 < wa.heap.size := by omega
                clear tH t0 t1 t2 t3 t4 t5
                have o2' := T1.out.out (i + 1) (by omega) (by omega)
                have c2' := T1.out.cell (i + 1) (q + 1) (by omega) (by omega) (by omega)
                rw [HC1.out] at c2'
                have o1 := T1.out.out (i + 1) (by omega) (by omega)
                have c1 := T1.out.cell (i + 1) q (by omega) (by omega) (by omega)
                rw [HC1.out] at c1
                have hlg := T1.out.outer.lt
                have hlr := T1.out.lt (i + 1) (by omega) (by omega)
                go_wp2_with fail
                have KP : Hid (∀ X X' : World, Below X.heap.size X X' → (X.cell? ⟨bb, ob + i * 3, none⟩ = some (.int .i64 xk) ∧ X.cell? ⟨bb, ob + i * 3 + 1, none⟩ = some (.string xt) ∧ X.cell? ⟨bb, ob + i * 3 + 2, none⟩ = some (.int .i64 xd) ∧ X.cell? ⟨b2, o2 + q * 3, none⟩ = some (.int .i64 yk) ∧ X.cell? ⟨b2, o2 + q * 3 + 1, none⟩ = some (.string yt) ∧ X.cell? ⟨b2, o2 + q * 3 + 2, none⟩ = some (.int .i64 yd) ∧ X.cell? ⟨w.heap.size, i + 1, none⟩ = some (.slice (some ⟨g (i + 1), 0, none⟩) (b.length + 1) (b.length + 1)) ∧ X.cell? ⟨(g (i + 1)), q, none⟩ = some (.int .i64 (tabI a b (i + 1) q)) ∧ Hid (Below wa.heap.size wa X ∧ bb < wa.heap.size ∧ b2 < wa.heap.size ∧ w.heap.size < wa.heap.size ∧ (g (i + 1)) < wa.heap.size)) → (X'.cell? ⟨bb, ob + i * 3, none⟩ = some (.int .i64 xk) ∧ X'.cell? ⟨bb, ob + i * 3 + 1, none⟩ = some (.string xt) ∧ X'.cell? ⟨bb, ob + i * 3 + 2, none⟩ = some (.int .i64 xd) ∧ X'.cell? ⟨b2, o2 + q * 3, none⟩ = some (.int .i64 yk) ∧ X'.cell? ⟨b2, o2 + q * 3 + 1, none⟩ = some (.string yt) ∧ X'.cell? ⟨b2, o2 + q * 3 + 2, none⟩ = some (.int .i64 yd) ∧ X'.cell? ⟨w.heap.size, i + 1, none⟩ = some (.slice (some ⟨g (i + 1), 0, none⟩) (b.length + 1) (b.length + 1)) ∧ X'.cell? ⟨(g (i + 1)), q, none⟩ = some (.int .i64 (tabI a b (i + 1) q)) ∧ Hid (Below wa.heap.size wa X' ∧ bb < wa.heap.size ∧ b2 < wa.heap.size ∧ w.heap.size < wa.heap.size ∧ (g (i + 1)) < wa.heap.size))) := by
                  rintro X X' hb ⟨q0, q1, q2, q3, q4, q5, q6, q7, hH⟩
                  obtain ⟨hB, l0, l1, l2, l3⟩ := hH.out
                  have hsz := hB.size
                  exact ⟨(hb.cell (p := ⟨bb, ob + i * 3, none⟩) (Nat.lt_of_lt_of_le l0 hsz)).trans q0, (hb.cell (p := ⟨bb, ob + i * 3 + 1, none⟩) (Nat.lt_of_lt_of_le l0 hsz)).trans q1, (hb.cell (p := ⟨bb, ob + i * 3 + 2, none⟩) (Nat.lt_of_lt_of_le l0 hsz)).trans q2, (hb.cell (p := ⟨b2, o2 + q * 3, none⟩) (Nat.lt_of_lt_of_le l1 hsz)).trans q3, (hb.cell (p := ⟨b2, o2 + q * 3 + 1, none⟩) (Nat.lt_of_lt_of_le l1 hsz)).trans q4, (hb.cell (p := ⟨b2, o2 + q * 3 + 2, none⟩) (Nat.lt_of_lt_of_le l1 hsz)).trans q5, (hb.cell (p := ⟨w.heap.size, i + 1, none⟩) (Nat.lt_of_lt_of_le l2 hsz)).trans q6, (hb.cell (p := ⟨(g (i + 1)), q, none⟩) (Nat.lt_of_lt_of_le l3 hsz)).trans q7, ⟨hB.trans (hb.mono hsz), l0, l1, l2, l3⟩⟩
                have KD : Hid (∀ X : World, (X.cell? ⟨bb, ob + i * 3, none⟩ = some (.int .i64 xk) ∧ X.cell? ⟨bb, ob + i * 3 + 1, none⟩ = some (.string xt) ∧ X.cell? ⟨bb, ob + i * 3 + 2, none⟩ = some (.int .i64 xd) ∧ X.cell? ⟨b2, o2 + q * 3, none⟩ = some (.int .i64 yk) ∧ X.cell? ⟨b2, o2 + q * 3 + 1, none⟩ = some (.string yt) ∧ X.cell? ⟨b2, o2 + q * 3 + 2, none⟩ = some (.int .i64 yd) ∧ X.cell? ⟨w.heap.size, i + 1, none⟩ = some (.slice (some ⟨g (i + 1), 0, none⟩) (b.length + 1) (b.length + 1)) ∧ X.cell? ⟨(g (i + 1)), q, none⟩ = some (.int .i64 (tabI a b (i + 1) q)) ∧ Hid (Below wa.heap.size wa X ∧ bb < wa.heap.size ∧ b2 < wa.heap.size ∧ w.heap.size < wa.heap.size ∧ (g (i + 1)) < wa.heap.size)) → (X.drew.cell? ⟨bb, ob + i * 3, none⟩ = some (.int .i64 xk) ∧ X.drew.cell? ⟨bb, ob + i * 3 + 1, none⟩ = some (.string xt) ∧ X.drew.cell? ⟨bb, ob + i * 3 + 2, none⟩ = some (.int .i64 xd) ∧ X.drew.cell? ⟨b2, o2 + q * 3, none⟩ = some (.int .i64 yk) ∧ X.drew.cell? ⟨b2, o2 + q * 3 + 1, none⟩ = some (.string yt) ∧ X.drew.cell? ⟨b2, o2 + q * 3 + 2, none⟩ = some (.int .i64 yd) ∧ X.drew.cell? ⟨w.heap.size, i + 1, none⟩ = some (.slice (some ⟨g (i + 1), 0, none⟩) (b.length + 1) (b.length + 1)) ∧ X.drew.cell? ⟨(g (i + 1)), q, none⟩ = some (.int .i64 (tabI a b (i + 1) q)) ∧ Hid (Below wa.heap.size wa X.drew ∧ bb < wa.heap.size ∧ b2 < wa.heap.size ∧ w.heap.size < wa.heap.size ∧ (g (i + 1)) < wa.heap.size))) := by
                  rintro X ⟨q0, q1, q2, q3, q4, q5, q6, q7, hH⟩
                  exact ⟨q0, q1, q2, q3, q4, q5, q6, q7, ⟨below_drewN hH.out.1 1, hH.out.2⟩⟩
                have K0 : Hid (wa.cell? ⟨bb, ob + i * 3, none⟩ = some (.int .i64 xk) ∧ wa.cell? ⟨bb, ob + i * 3 + 1, none⟩ = some (.string xt) ∧ wa.cell? ⟨bb, ob + i * 3 + 2, none⟩ = some (.int .i64 xd) ∧ wa.cell? ⟨b2, o2 + q * 3, none⟩ = some (.int .i64 yk) ∧ wa.cell? ⟨b2, o2 + q * 3 + 1, none⟩ = some (.string yt) ∧ wa.cell? ⟨b2, o2 + q * 3 + 2, none⟩ = some (.int .i64 yd) ∧ wa.cell? ⟨w.heap.size, i + 1, none⟩ = some (.slice (some ⟨g (i + 1), 0, none⟩) (b.length + 1) (b.length + 1)) ∧ wa.cell? ⟨(g (i + 1)), q, none⟩ = some (.int .i64 (tabI a b (i + 1) q)) ∧ Hid (Below wa.heap.size wa wa ∧ bb < wa.heap.size ∧ b2 < wa.heap.size ∧ w.heap.size < wa.heap.size ∧ (g (i + 1)) < wa.heap.size)) := ⟨(q1), (q2), (q3), (p1), (p2), (p3), (o1), (c1), ⟨Below.refl _ _, (hl0), (hl2), (hlg), (hlr)⟩⟩
                go_region_held3 (fun w' => w'.cell? ⟨bb, ob + i * 3, none⟩ = some (.int .i64 xk) ∧ w'.cell? ⟨bb, ob + i * 3 + 1, none⟩ = some (.string xt) ∧ w'.cell? ⟨bb, ob + i * 3 + 2, none⟩ = some (.int .i64 xd) ∧ w'.cell? ⟨b2, o2 + q * 3, none⟩ = some (.int .i64 yk) ∧ w'.cell? ⟨b2, o2 + q * 3 + 1, none⟩ = some (.string yt) ∧ w'.cell? ⟨b2, o2 + q * 3 + 2, none⟩ = some (.int .i64 yd) ∧ w'.cell? ⟨w.heap.size, i + 1, none⟩ = some (.slice (some ⟨g (i + 1), 0, none⟩) (b.length + 1) (b.length + 1)) ∧ w'.cell? ⟨(g (i + 1)), q, none⟩ = some (.int .i64 (tabI a b (i + 1) q)) ∧ Hid (Below wa.heap.size wa w' ∧ bb < wa.heap.size ∧ b2 < wa.heap.size ∧ w.heap.size < wa.heap.size ∧ (g (i + 1)) < wa.heap.size))
                  (first | exact K0.out | exact KD.out _ K0.out | assumption | exact KP.out _ _ hb' (KD.out _ K0.out) | (refine KP.out _ _ hb' ?_; with_reducible_and_instances assumption) | (refine KD.out _ ?_; with_reducible_and_instances assumption))
                  (first
                    | (go_at_call 42; refine (alone_any xk xd xt _).mono ?_; rintro e w' ⟨rfl, hb'⟩))
                rename_i hh
                obtain ⟨t0, t1, t2, t3, t4, t5, t6, t7, tH⟩ := hh
                clear KP KD K0
                obtain ⟨wb, rfl⟩ : ∃ wz : World, wz = w' := ⟨_, rfl⟩
                have T2 := Lib.hid (T1.out.below tH.out.1)
                have B2 := Lib.hid (B1.out.trans (tH.out.1.mono B1.out.size))
                have hz2 := tH.out.1.size
                clear q1 q2 q3 hl0 p1 p2 p3 hl2 hlg hlr o1 c1
                have q1 := t0
                have q2 := t1
                have q3 := t2
                have p1 := t3
                have p2 := t4
                have p3 := t5
                have hl0 : bb < wb.heap.size := by omega
                have hl2 : b2 < wb.heap.size := by omega
                clear tH t0 t1 t2 t3 t4 t5 t6 t7
                clear o2' c2'
                go_wp2_with fail
                all_goals
                  have o1 := T2.out.out i (Nat.le_refl _) (by omega)
                  have c1 := T2.out.cell i (q + 1) (Nat.le_refl _) (by omega) (by omega)
                  rw [HC2.out] at c1
                  have hlg := T2.out.outer.lt
                  have hlr := T2.out.lt i (Nat.le_refl _) (by omega)
                  go_wp2_with fail
                  have KP : Hid (∀ X X' : World, Below X.heap.size X X' → (X.cell? ⟨b2, o2 + q * 3, none⟩ = some (.int .i64 yk) ∧ X.cell? ⟨b2, o2 + q * 3 + 1, none⟩ = some (.string yt) ∧ X.cell? ⟨b2, o2 + q * 3 + 2, none⟩ = some (.int .i64 yd) ∧ X.cell? ⟨w.heap.size, i, none⟩ = some (.slice (some ⟨g i, 0, none⟩) (b.length + 1) (b.length + 1)) ∧ X.cell? ⟨(g i), q + 1, none⟩ = some (.int .i64 (tabI a b i (q + 1))) ∧ Hid (Below wb.heap.size wb X ∧ b2 < wb.heap.size ∧ w.heap.size < wb.heap.size ∧ (g i) < wb.heap.size)) → (X'.cell? ⟨b2, o2 + q * 3, none⟩ = some (.int .i64 yk) ∧ X'.cell? ⟨b2, o2 + q * 3 + 1, none⟩ = some (.string yt) ∧ X'.cell? ⟨b2, o2 + q * 3 + 2, none⟩ = some (.int .i64 yd) ∧ X'.cell? ⟨w.heap.size, i, none⟩ = some (.slice (some ⟨g i, 0, none⟩) (b.length + 1) (b.length + 1)) ∧ X'.cell? ⟨(g i), q + 1, none⟩ = some (.int .i64 (tabI a b i (q + 1))) ∧ Hid (Below wb.heap.size wb X' ∧ b2 < wb.heap.size ∧ w.heap.size < wb.heap.size ∧ (g i) < wb.heap.size))) := by
                    rintro X X' hb ⟨q0, q1, q2, q3, q4, hH⟩
                    obtain ⟨hB, l0, l1, l2⟩ := hH.out
                    have hsz := hB.size
                    exact ⟨(hb.cell (p := ⟨b2, o2 + q * 3, none⟩) (Nat.lt_of_lt_of_le l0 hsz)).trans q0, (hb.cell (p := ⟨b2, o2 + q * 3 + 1, none⟩) (Nat.lt_of_lt_of_le l0 hsz)).trans q1, (hb.cell (p := ⟨b2, o2 + q * 3 + 2, none⟩) (Nat.lt_of_lt_of_le l0 hsz)).trans q2, (hb.cell (p := ⟨w.heap.size, i, none⟩) (Nat.lt_of_lt_of_le l1 hsz)).trans q3, (hb.cell (p := ⟨(g i), q + 1, none⟩) (Nat.lt_of_lt_of_le l2 hsz)).trans q4, ⟨hB.trans (hb.mono hsz), l0, l1, l2⟩⟩
                  have KD : Hid (∀ X : World, (X.cell? ⟨b2, o2 + q * 3, none⟩ = some (.int .i64 yk) ∧ X.cell? ⟨b2, o2 + q * 3 + 1, none⟩ = some (.string yt) ∧ X.cell? ⟨b2, o2 + q * 3 + 2, none⟩ = some (.int .i64 yd) ∧ X.cell? ⟨w.heap.size, i, none⟩ = some (.slice (some ⟨g i, 0, none⟩) (b.length + 1) (b.length + 1)) ∧ X.cell? ⟨(g i), q + 1, none⟩ = some (.int .i64 (tabI a b i (q + 1))) ∧ Hid (Below wb.heap.size wb X ∧ b2 < wb.heap.size ∧ w.heap.size < wb.heap.size ∧ (g i) < wb.heap.size)) → (X.drew.cell? ⟨b2, o2 + q * 3, none⟩ = some (.int .i64 yk) ∧ X.drew.cell? ⟨b2, o2 + q * 3 + 1, none⟩ = some (.string yt) ∧ X.drew.cell? ⟨b2, o2 + q * 3 + 2, none⟩ = some (.int .i64 yd) ∧ X.drew.cell? ⟨w.heap.size, i, none⟩ = some (.slice (some ⟨g i, 0, none⟩) (b.length + 1) (b.length + 1)) ∧ X.drew.cell? ⟨(g i), q + 1, none⟩ = some (.int .i64 (tabI a b i (q + 1))) ∧ Hid (Below wb.heap.size wb X.drew ∧ b2 < wb.heap.size ∧ w.heap.size < wb.heap.size ∧ (g i) < wb.heap.size))) := by
                    rintro X ⟨q0, q1, q2, q3, q4, hH⟩
                    exact ⟨q0, q1, q2, q3, q4, ⟨below_drewN hH.out.1 1, hH.out.2⟩⟩
                  have K0 : Hid (wb.cell? ⟨b2, o2 + q * 3, none⟩ = some (.int .i64 yk) ∧ wb.cell? ⟨b2, o2 + q * 3 + 1, none⟩ = some (.string yt) ∧ wb.cell? ⟨b2, o2 + q * 3 + 2, none⟩ = some (.int .i64 yd) ∧ wb.cell? ⟨w.heap.size, i, none⟩ = some (.slice (some ⟨g i, 0, none⟩) (b.length + 1) (b.length + 1)) ∧ wb.cell? ⟨(g i), q + 1, none⟩ = some (.int .i64 (tabI a b i (q + 1))) ∧ Hid (Below wb.heap.size wb wb ∧ b2 < wb.heap.size ∧ w.heap.size < wb.heap.size ∧ (g i) < wb.heap.size)) := ⟨(p1), (p2), (p3), (o1), (c1), ⟨Below.refl _ _, (hl2), (hlg), (hlr)⟩⟩
                  go_region_held3 (fun w' => w'.cell? ⟨b2, o2 + q * 3, none⟩ = some (.int .i64 yk) ∧ w'.cell? ⟨b2, o2 + q * 3 + 1, none⟩ = some (.string yt) ∧ w'.cell? ⟨b2, o2 + q * 3 + 2, none⟩ = some (.int .i64 yd) ∧ w'.cell? ⟨w.heap.size, i, none⟩ = some (.slice (some ⟨g i, 0, none⟩) (b.length + 1) (b.length + 1)) ∧ w'.cell? ⟨(g i), q + 1, none⟩ = some (.int .i64 (tabI a b i (q + 1))) ∧ Hid (Below wb.heap.size wb w' ∧ b2 < wb.heap.size ∧ w.heap.size < wb.heap.size ∧ (g i) < wb.heap.size))
                    (first | exact K0.out | exact KD.out _ K0.out | assumption | exact KP.out _ _ hb' (KD.out _ K0.out) | (refine KP.out _ _ hb' ?_; with_reducible_and_instances assumption) | (refine KD.out _ ?_; with_reducible_and_instances assumption))
                    (first
                      | (go_at_call 42; refine (alone_any yk yd yt _).mono ?_; rintro e w' ⟨rfl, hb'⟩))
                  rename_i hh
                  obtain ⟨t0, t1, t2, t3, t4, tH⟩ := hh
                  clear KP KD K0
                  obtain ⟨wc, rfl⟩ : ∃ wz : World, wz = w' := ⟨_, rfl⟩
                  have T3 := Lib.hid (T2.out.below tH.out.1)
                  have B3 := Lib.hid (B2.out.trans (tH.out.1.mono B2.out.size))
                  have hz3 := tH.out.1.size
                  clear p1 p2 p3 hl2 hlg hlr o1 c1
                  have p1 := t0
                  have p2 := t1
                  have p3 := t2
                  have hl2 : b2 < wc.heap.size := by omega
                  clear tH t0 t1 t2 t3 t4
                  have o0 := T3.out.out i (Nat.le_refl _) (by omega)
                  have c9 := T3.out.cell i q (Nat.le_refl _) (by omega) (by omega)
                  have c9f := T3.out.free i q (Nat.le_refl _) (by omega)
                  go_wp2_with fail
                  all_goals
                    exact ⟨⟨q, by omega, by go_num, HFIN.out _ _ T3.out (by have := HEQ'.out; clear HFIN; omega), T3.out.belowSet B3.out i q (Nat.le_refl _) (by omega) _⟩, by simp [intOf]; try omega⟩
              · have hc' : costOk ⟨xk, xt, xd⟩ ⟨yk, yt, yd⟩ = false := by simpa using hc
                have HEQ' := Lib.hid (HNO.out hc')
                clear hc HOK HNO
                go_wp2_with fail
                have KP : Hid (∀ X X' : World, Below X.heap.size X X' → (X.cell? ⟨bb, ob + i * 3, none⟩ = some (.int .i64 xk) ∧ X.cell? ⟨bb, ob + i * 3 + 1, none⟩ = some (.string xt) ∧ X.cell? ⟨bb, ob + i * 3 + 2, none⟩ = some (.int .i64 xd) ∧ X.cell? ⟨b2, o2 + q * 3, none⟩ = some (.int .i64 yk) ∧ X.cell? ⟨b2, o2 + q * 3 + 1, none⟩ = some (.string yt) ∧ X.cell? ⟨b2, o2 + q * 3 + 2, none⟩ = some (.int .i64 yd) ∧ Hid (Below wy.heap.size wy X ∧ bb < wy.heap.size ∧ b2 < wy.heap.size)) → (X'.cell? ⟨bb, ob + i * 3, none⟩ = some (.int .i64 xk) ∧ X'.cell? ⟨bb, ob + i * 3 + 1, none⟩ = some (.string xt) ∧ X'.cell? ⟨bb, ob + i * 3 + 2, none⟩ = some (.int .i64 xd) ∧ X'.cell? ⟨b2, o2 + q * 3, none⟩ = some (.int .i64 yk) ∧ X'.cell? ⟨b2, o2 + q * 3 + 1, none⟩ = some (.string yt) ∧ X'.cell? ⟨b2, o2 + q * 3 + 2, none⟩ = some (.int .i64 yd) ∧ Hid (Below wy.heap.size wy X' ∧ bb < wy.heap.size ∧ b2 < wy.heap.size))) := by
                  rintro X X' hb ⟨q0, q1, q2, q3, q4, q5, hH⟩
                  obtain ⟨hB, l0, l1⟩ := hH.out
                  have hsz := hB.size
                  exact ⟨(hb.cell (p := ⟨bb, ob + i * 3, none⟩) (Nat.lt_of_lt_of_le l0 hsz)).trans q0, (hb.cell (p := ⟨bb, ob + i * 3 + 1, none⟩) (Nat.lt_of_lt_of_le l0 hsz)).trans q1, (hb.cell (p := ⟨bb, ob + i * 3 + 2, none⟩) (Nat.lt_of_lt_of_le l0 hsz)).trans q2, (hb.cell (p := ⟨b2, o2 + q * 3, none⟩) (Nat.lt_of_lt_of_le l1 hsz)).trans q3, (hb.cell (p := ⟨b2, o2 + q * 3 + 1, none⟩) (Nat.lt_of_lt_of_le l1 hsz)).trans q4, (hb.cell (p := ⟨b2, o2 + q * 3 + 2, none⟩) (Nat.lt_of_lt_of_le l1 hsz)).trans q5, ⟨hB.trans (hb.mono hsz), l0, l1⟩⟩
                have KD : Hid (∀ X : World, (X.cell? ⟨bb, ob + i * 3, none⟩ = some (.int .i64 xk) ∧ X.cell? ⟨bb, ob + i * 3 + 1, none⟩ = some (.string xt) ∧ X.cell? ⟨bb, ob + i * 3 + 2, none⟩ = some (.int .i64 xd) ∧ X.cell? ⟨b2, o2 + q * 3, none⟩ = some (.int .i64 yk) ∧ X.cell? ⟨b2, o2 + q * 3 + 1, none⟩ = some (.string yt) ∧ X.cell? ⟨b2, o2 + q * 3 + 2, none⟩ = some (.int .i64 yd) ∧ Hid (Below wy.heap.size wy X ∧ bb < wy.heap.size ∧ b2 < wy.heap.size)) → (X.drew.cell? ⟨bb, ob + i * 3, none⟩ = some (.int .i64 xk) ∧ X.drew.cell? ⟨bb, ob + i * 3 + 1, none⟩ = some (.string xt) ∧ X.drew.cell? ⟨bb, ob + i * 3 + 2, none⟩ = some (.int .i64 xd) ∧ X.drew.cell? ⟨b2, o2 + q * 3, none⟩ = some (.int .i64 yk) ∧ X.drew.cell? ⟨b2, o2 + q * 3 + 1, none⟩ = some (.string yt) ∧ X.drew.cell? ⟨b2, o2 + q * 3 + 2, none⟩ = some (.int .i64 yd) ∧ Hid (Below wy.heap.size wy X.drew ∧ bb < wy.heap.size ∧ b2 < wy.heap.size))) := by
                  rintro X ⟨q0, q1, q2, q3, q4, q5, hH⟩
                  exact ⟨q0, q1, q2, q3, q4, q5, ⟨below_drewN hH.out.1 1, hH.out.2⟩⟩
                have K0 : Hid (wy.cell? ⟨bb, ob + i * 3, none⟩ = some (.int .i64 xk) ∧ wy.cell? ⟨bb, ob + i * 3 + 1, none⟩ = some (.string xt) ∧ wy.cell? ⟨bb, ob + i * 3 + 2, none⟩ = some (.int .i64 xd) ∧ wy.cell? ⟨b2, o2 + q * 3, none⟩ = some (.int .i64 yk) ∧ wy.cell? ⟨b2, o2 + q * 3 + 1, none⟩ = some (.string yt) ∧ wy.cell? ⟨b2, o2 + q * 3 + 2, none⟩ = some (.int .i64 yd) ∧ Hid (Below wy.heap.size wy wy ∧ bb < wy.heap.size ∧ b2 < wy.heap.size)) := ⟨(q1), (q2), (q3), (p1), (p2), (p3), ⟨Below.refl _ _, (hl0), (hl2)⟩⟩
                go_region_held3 (fun w' => w'.cell? ⟨bb, ob + i * 3, none⟩ = some (.int .i64 xk) ∧ w'.cell? ⟨bb, ob + i * 3 + 1, none⟩ = some (.string xt) ∧ w'.cell? ⟨bb, ob + i * 3 + 2, none⟩ = some (.int .i64 xd) ∧ w'.cell? ⟨b2, o2 + q * 3, none⟩ = some (.int .i64 yk) ∧ w'.cell? ⟨b2, o2 + q * 3 + 1, none⟩ = some (.string yt) ∧ w'.cell? ⟨b2, o2 + q * 3 + 2, none⟩ = some (.int .i64 yd) ∧ Hid (Below wy.heap.size wy w' ∧ bb < wy.heap.size ∧ b2 < wy.heap.size))
                  (first | exact K0.out | exact KD.out _ K0.out | assumption | exact KP.out _ _ hb' (KD.out _ K0.out) | (refine KP.out _ _ hb' ?_; with_reducible_and_instances assumption) | (refine KD.out _ ?_; with_reducible_and_instances assumption))
                  (first
                    | (go_at_call 16; refine (rcost_any xk xd yk yd xt yt _ hxt hyt).mono ?_; rintro e w' ⟨rfl, hb'⟩))
                rename_i hh
                obtain ⟨t0, t1, t2, t3, t4, t5, tH⟩ := hh
                clear KP KD K0
                obtain ⟨wa, rfl⟩ : ∃ wz : World, wz = w' := ⟨_, rfl⟩
                have T1 := Lib.hid (HT.out.below tH.out.1)
                have B1 := Lib.hid (HBW.out.trans (tH.out.1.mono HBW.out.size))
                have hz1 := tH.out.1.size
                clear q1 q2 q3 hl0 p1 p2 p3 hl2
                have q1 := t0
                have q2 := t1
                have q3 := t2
                have p1 := t3
                have p2 := t4
                have p3 := t5
                have hl0 : bb < wa.heap.size := by omega
                have hl2 : b2 < wa.heap.size := by omega
                clear tH t0 t1 t2 t3 t4 t5
                have o1 := T1.out.out (i + 1) (by omega) (by omega)
                have c1 := T1.out.cell (i + 1) q (by omega) (by omega) (by omega)
                rw [HC1.out] at c1
                have hlg := T1.out.outer.lt
                have hlr := T1.out.lt (i + 1) (by omega) (by omega)
                go_wp2_with fail
                have KP : Hid (∀ X X' : World, Below X.heap.size X X' → (X.cell? ⟨bb, ob + i * 3, none⟩ = some (.int .i64 xk) ∧ X.cell? ⟨bb, ob + i * 3 + 1, none⟩ = some (.string xt) ∧ X.cell? ⟨bb, ob + i * 3 + 2, none⟩ = some (.int .i64 xd) ∧ X.cell? ⟨b2, o2 + q * 3, none⟩ = some (.int .i64 yk) ∧ X.cell? ⟨b2, o2 + q * 3 + 1, none⟩ = some (.string yt) ∧ X.cell? ⟨b2, o2 + q * 3 + 2, none⟩ = some (.int .i64 yd) ∧ X.cell? ⟨w.heap.size, i + 1, none⟩ = some (.slice (some ⟨g (i + 1), 0, none⟩) (b.length + 1) (b.length + 1)) ∧ X.cell? ⟨(g (i + 1)), q, none⟩ = some (.int .i64 (tabI a b (i + 1) q)) ∧ Hid (Below wa.heap.size wa X ∧ bb < wa.heap.size ∧ b2 < wa.heap.size ∧ w.heap.size < wa.heap.size ∧ (g (i + 1)) < wa.heap.size)) → (X'.cell? ⟨bb, ob + i * 3, none⟩ = some (.int .i64 xk) ∧ X'.cell? ⟨bb, ob + i * 3 + 1, none⟩ = some (.string xt) ∧ X'.cell? ⟨bb, ob + i * 3 + 2, none⟩ = some (.int .i64 xd) ∧ X'.cell? ⟨b2, o2 + q * 3, none⟩ = some (.int .i64 yk) ∧ X'.cell? ⟨b2, o2 + q * 3 + 1, none⟩ = some (.string yt) ∧ X'.cell? ⟨b2, o2 + q * 3 + 2, none⟩ = some (.int .i64 yd) ∧ X'.cell? ⟨w.heap.size, i + 1, none⟩ = some (.slice (some ⟨g (i + 1), 0, none⟩) (b.length + 1) (b.length + 1)) ∧ X'.cell? ⟨(g (i + 1)), q, none⟩ = some (.int .i64 (tabI a b (i + 1) q)) ∧ Hid (Below wa.heap.size wa X' ∧ bb < wa.heap.size ∧ b2 < wa.heap.size ∧ w.heap.size < wa.heap.size ∧ (g (i + 1)) < wa.heap.size))) := by
                  rintro X X' hb ⟨q0, q1, q2, q3, q4, q5, q6, q7, hH⟩
                  obtain ⟨hB, l0, l1, l2, l3⟩ := hH.out
                  have hsz := hB.size
                  exact ⟨(hb.cell (p := ⟨bb, ob + i * 3, none⟩) (Nat.lt_of_lt_of_le l0 hsz)).trans q0, (hb.cell (p := ⟨bb, ob + i * 3 + 1, none⟩) (Nat.lt_of_lt_of_le l0 hsz)).trans q1, (hb.cell (p := ⟨bb, ob + i * 3 + 2, none⟩) (Nat.lt_of_lt_of_le l0 hsz)).trans q2, (hb.cell (p := ⟨b2, o2 + q * 3, none⟩) (Nat.lt_of_lt_of_le l1 hsz)).trans q3, (hb.cell (p := ⟨b2, o2 + q * 3 + 1, none⟩) (Nat.lt_of_lt_of_le l1 hsz)).trans q4, (hb.cell (p := ⟨b2, o2 + q * 3 + 2, none⟩) (Nat.lt_of_lt_of_le l1 hsz)).trans q5, (hb.cell (p := ⟨w.heap.size, i + 1, none⟩) (Nat.lt_of_lt_of_le l2 hsz)).trans q6, (hb.cell (p := ⟨(g (i + 1)), q, none⟩) (Nat.lt_of_lt_of_le l3 hsz)).trans q7, ⟨hB.trans (hb.mono hsz), l0, l1, l2, l3⟩⟩
                have KD : Hid (∀ X : World, (X.cell? ⟨bb, ob + i * 3, none⟩ = some (.int .i64 xk) ∧ X.cell? ⟨bb, ob + i * 3 + 1, none⟩ = some (.string xt) ∧ X.cell? ⟨bb, ob + i * 3 + 2, none⟩ = some (.int .i64 xd) ∧ X.cell? ⟨b2, o2 + q * 3, none⟩ = some (.int .i64 yk) ∧ X.cell? ⟨b2, o2 + q * 3 + 1, none⟩ = some (.string yt) ∧ X.cell? ⟨b2, o2 + q * 3 + 2, none⟩ = some (.int .i64 yd) ∧ X.cell? ⟨w.heap.size, i + 1, none⟩ = some (.slice (some ⟨g (i + 1), 0, none⟩) (b.length + 1) (b.length + 1)) ∧ X.cell? ⟨(g (i + 1)), q, none⟩ = some (.int .i64 (tabI a b (i + 1) q)) ∧ Hid (Below wa.heap.size wa X ∧ bb < wa.heap.size ∧ b2 < wa.heap.size ∧ w.heap.size < wa.heap.size ∧ (g (i + 1)) < wa.heap.size)) → (X.drew.cell? ⟨bb, ob + i * 3, none⟩ = some (.int .i64 xk) ∧ X.drew.cell? ⟨bb, ob + i * 3 + 1, none⟩ = some (.string xt) ∧ X.drew.cell? ⟨bb, ob + i * 3 + 2, none⟩ = some (.int .i64 xd) ∧ X.drew.cell? ⟨b2, o2 + q * 3, none⟩ = some (.int .i64 yk) ∧ X.drew.cell? ⟨b2, o2 + q * 3 + 1, none⟩ = some (.string yt) ∧ X.drew.cell? ⟨b2, o2 + q * 3 + 2, none⟩ = some (.int .i64 yd) ∧ X.drew.cell? ⟨w.heap.size, i + 1, none⟩ = some (.slice (some ⟨g (i + 1), 0, none⟩) (b.length + 1) (b.length + 1)) ∧ X.drew.cell? ⟨(g (i + 1)), q, none⟩ = some (.int .i64 (tabI a b (i + 1) q)) ∧ Hid (Below wa.heap.size wa X.drew ∧ bb < wa.heap.size ∧ b2 < wa.heap.size ∧ w.heap.size < wa.heap.size ∧ (g (i + 1)) < wa.heap.size))) := by
                  rintro X ⟨q0, q1, q2, q3, q4, q5, q6, q7, hH⟩
                  exact ⟨q0, q1, q2, q3, q4, q5, q6, q7, ⟨below_drewN hH.out.1 1, hH.out.2⟩⟩
                have K0 : Hid (wa.cell? ⟨bb, ob + i * 3, none⟩ = some (.int .i64 xk) ∧ wa.cell? ⟨bb, ob + i * 3 + 1, none⟩ = some (.string xt) ∧ wa.cell? ⟨bb, ob + i * 3 + 2, none⟩ = some (.int .i64 xd) ∧ wa.cell? ⟨b2, o2 + q * 3, none⟩ = some (.int .i64 yk) ∧ wa.cell? ⟨b2, o2 + q * 3 + 1, none⟩ = some (.string yt) ∧ wa.cell? ⟨b2, o2 + q * 3 + 2, none⟩ = some (.int .i64 yd) ∧ wa.cell? ⟨w.heap.size, i + 1, none⟩ = some (.slice (some ⟨g (i + 1), 0, none⟩) (b.length + 1) (b.length + 1)) ∧ wa.cell? ⟨(g (i + 1)), q, none⟩ = some (.int .i64 (tabI a b (i + 1) q)) ∧ Hid (Below wa.heap.size wa wa ∧ bb < wa.heap.size ∧ b2 < wa.heap.size ∧ w.heap.size < wa.heap.size ∧ (g (i + 1)) < wa.heap.size)) := ⟨(q1), (q2), (q3), (p1), (p2), (p3), (o1), (c1), ⟨Below.refl _ _, (hl0), (hl2), (hlg), (hlr)⟩⟩
                go_region_held3 (fun w' => w'.cell? ⟨bb, ob + i * 3, none⟩ = some (.int .i64 xk) ∧ w'.cell? ⟨bb, ob + i * 3 + 1, none⟩ = some (.string xt) ∧ w'.cell? ⟨bb, ob + i * 3 + 2, none⟩ = some (.int .i64 xd) ∧ w'.cell? ⟨b2, o2 + q * 3, none⟩ = some (.int .i64 yk) ∧ w'.cell? ⟨b2, o2 + q * 3 + 1, none⟩ = some (.string yt) ∧ w'.cell? ⟨b2, o2 + q * 3 + 2, none⟩ = some (.int .i64 yd) ∧ w'.cell? ⟨w.heap.size, i + 1, none⟩ = some (.slice (some ⟨g (i + 1), 0, none⟩) (b.length + 1) (b.length + 1)) ∧ w'.cell? ⟨(g (i + 1)), q, none⟩ = some (.int .i64 (tabI a b (i + 1) q)) ∧ Hid (Below wa.heap.size wa w' ∧ bb < wa.heap.size ∧ b2 < wa.heap.size ∧ w.heap.size < wa.heap.size ∧ (g (i + 1)) < wa.heap.size))
                  (first | exact K0.out | exact KD.out _ K0.out | assumption | exact KP.out _ _ hb' (KD.out _ K0.out) | (refine KP.out _ _ hb' ?_; with_reducible_and_instances assumption) | (refine KD.out _ ?_; with_reducible_and_instances assumption))
                  (first
                    | (go_at_call 42; refine (alone_any xk xd xt _).mono ?_; rintro e w' ⟨rfl, hb'⟩))
                rename_i hh
                obtain ⟨t0, t1, t2, t3, t4, t5, t6, t7, tH⟩ := hh
                clear KP KD K0
                obtain ⟨wb, rfl⟩ : ∃ wz : World, wz = w' := ⟨_, rfl⟩
                have T2 := Lib.hid (T1.out.below tH.out.1)
                have B2 := Lib.hid (B1.out.trans (tH.out.1.mono B1.out.size))
                have hz2 := tH.out.1.size
                clear q1 q2 q3 hl0 p1 p2 p3 hl2 hlg hlr o1 c1
                have q1 := t0
                have q2 := t1
                have q3 := t2
                have p1 := t3
                have p2 := t4
                have p3 := t5
                have hl0 : bb < wb.heap.size := by omega
                have hl2 : b2 < wb.heap.size := by omega
                clear tH t0 t1 t2 t3 t4 t5 t6 t7
                have o1 := T2.out.out i (Nat.le_refl _) (by omega)
                have c1 := T2.out.cell i (q + 1) (Nat.le_refl _) (by omega) (by omega)
                rw [HC2.out] at c1
                have hlg := T2.out.outer.lt
                have hlr := T2.out.lt i (Nat.le_refl _) (by omega)
                go_wp2_with fail
                have KP : Hid (∀ X X' : World, Below X.heap.size X X' → (X.cell? ⟨b2, o2 + q * 3, none⟩ = some (.int .i64 yk) ∧ X.cell? ⟨b2, o2 + q * 3 + 1, none⟩ = some (.string yt) ∧ X.cell? ⟨b2, o2 + q * 3 + 2, none⟩ = some (.int .i64 yd) ∧ X.cell? ⟨w.heap.size, i, none⟩ = some (.slice (some ⟨g i, 0, none⟩) (b.length + 1) (b.length + 1)) ∧ X.cell? ⟨(g i), q + 1, none⟩ = some (.int .i64 (tabI a b i (q + 1))) ∧ Hid (Below wb.heap.size wb X ∧ b2 < wb.heap.size ∧ w.heap.size < wb.heap.size ∧ (g i) < wb.heap.size)) → (X'.cell? ⟨b2, o2 + q * 3, none⟩ = some (.int .i64 yk) ∧ X'.cell? ⟨b2, o2 + q * 3 + 1, none⟩ = some (.string yt) ∧ X'.cell? ⟨b2, o2 + q * 3 + 2, none⟩ = some (.int .i64 yd) ∧ X'.cell? ⟨w.heap.size, i, none⟩ = some (.slice (some ⟨g i, 0, none⟩) (b.length + 1) (b.length + 1)) ∧ X'.cell? ⟨(g i), q + 1, none⟩ = some (.int .i64 (tabI a b i (q + 1))) ∧ Hid (Below wb.heap.size wb X' ∧ b2 < wb.heap.size ∧ w.heap.size < wb.heap.size ∧ (g i) < wb.heap.size))) := by
                  rintro X X' hb ⟨q0, q1, q2, q3, q4, hH⟩
                  obtain ⟨hB, l0, l1, l2⟩ := hH.out
                  have hsz := hB.size
                  exact ⟨(hb.cell (p := ⟨b2, o2 + q * 3, none⟩) (Nat.lt_of_lt_of_le l0 hsz)).trans q0, (hb.cell (p := ⟨b2, o2 + q * 3 + 1, none⟩) (Nat.lt_of_lt_of_le l0 hsz)).trans q1, (hb.cell (p := ⟨b2, o2 + q * 3 + 2, none⟩) (Nat.lt_of_lt_of_le l0 hsz)).trans q2, (hb.cell (p := ⟨w.heap.size, i, none⟩) (Nat.lt_of_lt_of_le l1 hsz)).trans q3, (hb.cell (p := ⟨(g i), q + 1, none⟩) (Nat.lt_of_lt_of_le l2 hsz)).trans q4, ⟨hB.trans (hb.mono hsz), l0, l1, l2⟩⟩
                have KD : Hid (∀ X : World, (X.cell? ⟨b2, o2 + q * 3, none⟩ = some (.int .i64 yk) ∧ X.cell? ⟨b2, o2 + q * 3 + 1, none⟩ = some (.string yt) ∧ X.cell? ⟨b2, o2 + q * 3 + 2, none⟩ = some (.int .i64 yd) ∧ X.cell? ⟨w.heap.size, i, none⟩ = some (.slice (some ⟨g i, 0, none⟩) (b.length + 1) (b.length + 1)) ∧ X.cell? ⟨(g i), q + 1, none⟩ = some (.int .i64 (tabI a b i (q + 1))) ∧ Hid (Below wb.heap.size wb X ∧ b2 < wb.heap.size ∧ w.heap.size < wb.heap.size ∧ (g i) < wb.heap.size)) → (X.drew.cell? ⟨b2, o2 + q * 3, none⟩ = some (.int .i64 yk) ∧ X.drew.cell? ⟨b2, o2 + q * 3 + 1, none⟩ = some (.string yt) ∧ X.drew.cell? ⟨b2, o2 + q * 3 + 2, none⟩ = some (.int .i64 yd) ∧ X.drew.cell? ⟨w.heap.size, i, none⟩ = some (.slice (some ⟨g i, 0, none⟩) (b.length + 1) (b.length + 1)) ∧ X.drew.cell? ⟨(g i), q + 1, none⟩ = some (.int .i64 (tabI a b i (q + 1))) ∧ Hid (Below wb.heap.size wb X.drew ∧ b2 < wb.heap.size ∧ w.heap.size < wb.heap.size ∧ (g i) < wb.heap.size))) := by
                  rintro X ⟨q0, q1, q2, q3, q4, hH⟩
                  exact ⟨q0, q1, q2, q3, q4, ⟨below_drewN hH.out.1 1, hH.out.2⟩⟩
                have K0 : Hid (wb.cell? ⟨b2, o2 + q * 3, none⟩ = some (.int .i64 yk) ∧ wb.cell? ⟨b2, o2 + q * 3 + 1, none⟩ = some (.string yt) ∧ wb.cell? ⟨b2, o2 + q * 3 + 2, none⟩ = some (.int .i64 yd) ∧ wb.cell? ⟨w.heap.size, i, none⟩ = some (.slice (some ⟨g i, 0, none⟩) (b.length + 1) (b.length + 1)) ∧ wb.cell? ⟨(g i), q + 1, none⟩ = some (.int .i64 (tabI a b i (q + 1))) ∧ Hid (Below wb.heap.size wb wb ∧ b2 < wb.heap.size ∧ w.heap.size < wb.heap.size ∧ (g i) < wb.heap.size)) := ⟨(p1), (p2), (p3), (o1), (c1), ⟨Below.refl _ _, (hl2), (hlg), (hlr)⟩⟩
                go_region_held3 (fun w' => w'.cell? ⟨b2, o2 + q * 3, none⟩ = some (.int .i64 yk) ∧ w'.cell? ⟨b2, o2 + q * 3 + 1, none⟩ = some (.string yt) ∧ w'.cell? ⟨b2, o2 + q * 3 + 2, none⟩ = some (.int .i64 yd) ∧ w'.cell? ⟨w.heap.size, i, none⟩ = some (.slice (some ⟨g i, 0, none⟩) (b.length + 1) (b.length + 1)) ∧ w'.cell? ⟨(g i), q + 1, none⟩ = some (.int .i64 (tabI a b i (q + 1))) ∧ Hid (Below wb.heap.size wb w' ∧ b2 < wb.heap.size ∧ w.heap.size < wb.heap.size ∧ (g i) < wb.heap.size))
                  (first | exact K0.out | exact KD.out _ K0.out | assumption | exact KP.out _ _ hb' (KD.out _ K0.out) | (refine KP.out _ _ hb' ?_; with_reducible_and_instances assumption) | (refine KD.out _ ?_; with_reducible_and_instances assumption))
                  (first
                    | (go_at_call 42; refine (alone_any yk yd yt _).mono ?_; rintro e w' ⟨rfl, hb'⟩))
                rename_i hh
                obtain ⟨t0, t1, t2, t3, t4, tH⟩ := hh
                clear KP KD K0
                obtain ⟨wc, rfl⟩ : ∃ wz : World, wz = w' := ⟨_, rfl⟩
                have T3 := Lib.hid (T2.out.below tH.out.1)
                have B3 := Lib.hid (B2.out.trans (tH.out.1.mono B2.out.size))
                have hz3 := tH.out.1.size
                clear p1 p2 p3 hl2 hlg hlr o1 c1
                have p1 := t0
                have p2 := t1
                have p3 := t2
                have hl2 : b2 < wc.heap.size := by omega
                clear tH t0 t1 t2 t3 t4
                have o0 := T3.out.out i (Nat.le_refl _) (by omega)
                have c9 := T3.out.cell i q (Nat.le_refl _) (by omega) (by omega)
                have c9f := T3.out.free i q (Nat.le_refl _) (by omega)
                go_wp2_with fail
                all_goals
                  exact ⟨⟨q, by omega, by go_num, HFIN.out _ _ T3.out (by have := HEQ'.out; clear HFIN; omega), T3.out.belowSet B3.out i q (Nat.le_refl _) (by omega) _⟩, by simp [intOf]; try omega⟩
            · have hq' : b.length ≤ q := by omega
              have k1 : ¬ (q : Int) < (b.length : Int) := by omega
              have k2 : ((q : Int) == (b.length : Int)) = true := by simp; omega
              have HEQ' := Lib.hid (tab_a a b i q hi (by omega))
              generalize a[i] = x at q1 q2 q3 hsx hxi HEQ'
              obtain ⟨xk, xt, xd⟩ := x
              have hxt : xt.size ≤ maxLen := hxi.1
              clear hxi
              simp only at q1 q2 q3
              have u1 : IntKind.i64.wrap (singleI ⟨xk, xt, xd⟩ + tabI a b (i + 1) q) = singleI ⟨xk, xt, xd⟩ + tabI a b (i + 1) q := by rw [IntKind.wrap_i64]; omega
              have o1 := HT.out.out (i + 1) (by omega) (by omega)
              have c1 := HT.out.cell (i + 1) q (by omega) (by omega) (by omega)
              rw [HC1.out] at c1
              have hlg := HT.out.outer.lt
              have hlr := HT.out.lt (i + 1) (by omega) (by omega)
              go_wp2_with fail
              have KP : Hid (∀ X X' : World, Below X.heap.size X X' → (X.cell? ⟨bb, ob + i * 3, none⟩ = some (.int .i64 xk) ∧ X.cell? ⟨bb, ob + i * 3 + 1, none⟩ = some (.string xt) ∧ X.cell? ⟨bb, ob + i * 3 + 2, none⟩ = some (.int .i64 xd) ∧ X.cell? ⟨w.heap.size, i + 1, none⟩ = some (.slice (some ⟨g (i + 1), 0, none⟩) (b.length + 1) (b.length + 1)) ∧ X.cell? ⟨(g (i + 1)), q, none⟩ = some (.int .i64 (tabI a b (i + 1) q)) ∧ Hid (Below wy.heap.size wy X ∧ bb < wy.heap.size ∧ w.heap.size < wy.heap.size ∧ (g (i + 1)) < wy.heap.size)) → (X'.cell? ⟨bb, ob + i * 3, none⟩ = some (.int .i64 xk) ∧ X'.cell? ⟨bb, ob + i * 3 + 1, none⟩ = some (.string xt) ∧ X'.cell? ⟨bb, ob + i * 3 + 2, none⟩ = some (.int .i64 xd) ∧ X'.cell? ⟨w.heap.size, i + 1, none⟩ = some (.slice (some ⟨g (i + 1), 0, none⟩) (b.length + 1) (b.length + 1)) ∧ X'.cell? ⟨(g (i + 1)), q, none⟩ = some (.int .i64 (tabI a b (i + 1) q)) ∧ Hid (Below wy.heap.size wy X' ∧ bb < wy.heap.size ∧ w.heap.size < wy.heap.size ∧ (g (i + 1)) < wy.heap.size))) := by
                rintro X X' hb ⟨q0, q1, q2, q3, q4, hH⟩
                obtain ⟨hB, l0, l1, l2⟩ := hH.out
                have hsz := hB.size
                exact ⟨(hb.cell (p := ⟨bb, ob + i * 3, none⟩) (Nat.lt_of_lt_of_le l0 hsz)).trans q0, (hb.cell (p := ⟨bb, ob + i * 3 + 1, none⟩) (Nat.lt_of_lt_of_le l0 hsz)).trans q1, (hb.cell (p := ⟨bb, ob + i * 3 + 2, none⟩) (Nat.lt_of_lt_of_le l0 hsz)).trans q2, (hb.cell (p := ⟨w.heap.size, i + 1, none⟩) (Nat.lt_of_lt_of_le l1 hsz)).trans q3, (hb.cell (p := ⟨(g (i + 1)), q, none⟩) (Nat.lt_of_lt_of_le l2 hsz)).trans q4, ⟨hB.trans (hb.mono hsz), l0, l1, l2⟩⟩
              have KD : Hid (∀ X : World, (X.cell? ⟨bb, ob + i * 3, none⟩ = some (.int .i64 xk) ∧ X.cell? ⟨bb, ob + i * 3 + 1, none⟩ = some (.string xt) ∧ X.cell? ⟨bb, ob + i * 3 + 2, none⟩ = some (.int .i64 xd) ∧ X.cell? ⟨w.heap.size, i + 1, none⟩ = some (.slice (some ⟨g (i + 1), 0, none⟩) (b.length + 1) (b.length + 1)) ∧ X.cell? ⟨(g (i + 1)), q, none⟩ = some (.int .i64 (tabI a b (i + 1) q)) ∧ Hid (Below wy.heap.size wy X ∧ bb < wy.heap.size ∧ w.heap.size < wy.heap.size ∧ (g (i + 1)) < wy.heap.size)) → (X.drew.cell? ⟨bb, ob + i * 3, none⟩ = some (.int .i64 xk) ∧ X.drew.cell? ⟨bb, ob + i * 3 + 1, none⟩ = some (.string xt) ∧ X.drew.cell? ⟨bb, ob + i * 3 + 2, none⟩ = some (.int .i64 xd) ∧ X.drew.cell? ⟨w.heap.size, i + 1, none⟩ = some (.slice (some ⟨g (i + 1), 0, none⟩) (b.length + 1) (b.length + 1)) ∧ X.drew.cell? ⟨(g (i + 1)), q, none⟩ = some (.int .i64 (tabI a b (i + 1) q)) ∧ Hid (Below wy.heap.size wy X.drew ∧ bb < wy.heap.size ∧ w.heap.size < wy.heap.size ∧ (g (i + 1)) < wy.heap.size))) := by
                rintro X ⟨q0, q1, q2, q3, q4, hH⟩
                exact ⟨q0, q1, q2, q3, q4, ⟨below_drewN hH.out.1 1, hH.out.2⟩⟩
              have K0 : Hid (wy.cell? ⟨bb, ob + i * 3, none⟩ = some (.int .i64 xk) ∧ wy.cell? ⟨bb, ob + i * 3 + 1, none⟩ = some (.string xt) ∧ wy.cell? ⟨bb, ob + i * 3 + 2, none⟩ = some (.int .i64 xd) ∧ wy.cell? ⟨w.heap.size, i + 1, none⟩ = some (.slice (some ⟨g (i + 1), 0, none⟩) (b.length + 1) (b.length + 1)) ∧ wy.cell? ⟨(g (i + 1)), q, none⟩ = some (.int .i64 (tabI a b (i + 1) q)) ∧ Hid (Below wy.heap.size wy wy ∧ bb < wy.heap.size ∧ w.heap.size < wy.heap.size ∧ (g (i + 1)) < wy.heap.size)) := ⟨(q1), (q2), (q3), (o1), (c1), ⟨Below.refl _ _, (hl0), (hlg), (hlr)⟩⟩
              go_region_held3 (fun w' => w'.cell? ⟨bb, ob + i * 3, none⟩ = some (.int .i64 xk) ∧ w'.cell? ⟨bb, ob + i * 3 + 1, none⟩ = some (.string xt) ∧ w'.cell? ⟨bb, ob + i * 3 + 2, none⟩ = some (.int .i64 xd) ∧ w'.cell? ⟨w.heap.size, i + 1, none⟩ = some (.slice (some ⟨g (i + 1), 0, none⟩) (b.length + 1) (b.length + 1)) ∧ w'.cell? ⟨(g (i + 1)), q, none⟩ = some (.int .i64 (tabI a b (i + 1) q)) ∧ Hid (Below wy.heap.size wy w' ∧ bb < wy.heap.size ∧ w.heap.size < wy.heap.size ∧ (g (i + 1)) < wy.heap.size))
                (first | exact K0.out | exact KD.out _ K0.out | assumption | exact KP.out _ _ hb' (KD.out _ K0.out) | (refine KP.out _ _ hb' ?_; with_reducible_and_instances assumption) | (refine KD.out _ ?_; with_reducible_and_instances assumption))
                (first
                  | (go_at_call 42; refine (alone_any xk xd xt _).mono ?_; rintro e w' ⟨rfl, hb'⟩))
              rename_i hh
              obtain ⟨t0, t1, t2, t3, t4, tH⟩ := hh
              clear KP KD K0
              obtain ⟨wa, rfl⟩ : ∃ wz : World, wz = w' := ⟨_, rfl⟩
              have T1 := Lib.hid (HT.out.below tH.out.1)
              have B1 := Lib.hid (HBW.out.trans (tH.out.1.mono HBW.out.size))
              have hz1 := tH.out.1.size
              clear q1 q2 q3 hl0 hlg hlr o1 c1
              have q1 := t0
              have q2 := t1
              have q3 := t2
              have hl0 : bb < wa.heap.size := by omega
              clear tH t0 t1 t2 t3 t4
              have o0 := T1.out.out i (Nat.le_refl _) (by omega)
              have c9 := T1.out.cell i q (Nat.le_refl _) (by omega) (by omega)
              have c9f := T1.out.free i q (Nat.le_refl _) (by omega)
              go_wp2_with fail
              all_goals
                exact ⟨⟨q, by omega, by go_num, HFIN.out _ _ T1.out (by have := HEQ'.out; clear HFIN; omega), T1.out.belowSet B1.out i q (Nat.le_refl _) (by omega) _⟩, by simp [intOf]; try omega⟩
          · have hi' : a.length ≤ i := by omega
            have i1 : ¬ (i : Int) < (a.length : Int) := by omega
            have i2 : ((i : Int) == (a.length : Int)) = true := by simp; omega
            by_cases hk : q < b.length
            · obtain ⟨b2, o2, rfl, hbl2, p1, p2, p3⟩ := RdT.at_ HB.out q hk
              rw [← HBW.out.cell (p := ⟨b2, o2 + q * 3, none⟩) hbl2] at p1
              rw [← HBW.out.cell (p := ⟨b2, o2 + q * 3 + 1, none⟩) hbl2] at p2
              rw [← HBW.out.cell (p := ⟨b2, o2 + q * 3 + 2, none⟩) hbl2] at p3
              have hl2 : b2 < wy.heap.size := by omega
              have hsy := single_bd b[q]
              have hyi := HIB.out b[q] (List.getElem_mem hk)
              have k1 : (q : Int) < (b.length : Int) := by omega
              have f6 : (q : Int) + 1 < (b.length : Int) + 1 := by omega
              have k2 : ((q : Int) == (b.length : Int)) = false := by simp; omega
              have HEQ' := Lib.hid (tab_b a b i q (by omega) hk)
              generalize b[q] = y at p1 p2 p3 hsy hyi HEQ'
              obtain ⟨yk, yt, yd⟩ := y
              have hyt : yt.size ≤ maxLen := hyi.1
              clear hyi
              simp only at p1 p2 p3
              have u2 : IntKind.i64.wrap (singleI ⟨yk, yt, yd⟩ + tabI a b i (q + 1)) = singleI ⟨yk, yt, yd⟩ + tabI a b i (q + 1) := by rw [IntKind.wrap_i64]; omega
              have o1 := HT.out.out i (Nat.le_refl _) (by omega)
              have c1 := HT.out.cell i (q + 1) (Nat.le_refl _) (by omega) (by omega)
              rw [HC2.out] at c1
              have hlg := HT.out.outer.lt
              have hlr := HT.out.lt i (Nat.le_refl _) (by omega)
              go_wp2_with fail
              have KP : Hid (∀ X X' : World, Below X.heap.size X X' → (X.cell? ⟨b2, o2 + q * 3, none⟩ = some (.int .i64 yk) ∧ X.cell? ⟨b2, o2 + q * 3 + 1, none⟩ = some (.string yt) ∧ X.cell? ⟨b2, o2 + q * 3 + 2, none⟩ = some (.int .i64 yd) ∧ X.cell? ⟨w.heap.size, i, none⟩ = some (.slice (some ⟨g i, 0, none⟩) (b.length + 1) (b.length + 1)) ∧ X.cell? ⟨(g i), q + 1, none⟩ = some (.int .i64 (tabI a b i (q + 1))) ∧ Hid (Below wy.heap.size wy X ∧ b2 < wy.heap.size ∧ w.heap.size < wy.heap.size ∧ (g i) < wy.heap.size)) → (X'.cell? ⟨b2, o2 + q * 3, none⟩ = some (.int .i64 yk) ∧ X'.cell? ⟨b2, o2 + q * 3 + 1, none⟩ = some (.string yt) ∧ X'.cell? ⟨b2, o2 + q * 3 + 2, none⟩ = some (.int .i64 yd) ∧ X'.cell? ⟨w.heap.size, i, none⟩ = some (.slice (some ⟨g i, 0, none⟩) (b.length + 1) (b.length + 1)) ∧ X'.cell? ⟨(g i), q + 1, none⟩ = some (.int .i64 (tabI a b i (q + 1))) ∧ Hid (Below wy.heap.size wy X' ∧ b2 < wy.heap.size ∧ w.heap.size < wy.heap.size ∧ (g i) < wy.heap.size))) := by
                rintro X X' hb ⟨q0, q1, q2, q3, q4, hH⟩
                obtain ⟨hB, l0, l1, l2⟩ := hH.out
                have hsz := hB.size
                exact ⟨(hb.cell (p := ⟨b2, o2 + q * 3, none⟩) (Nat.lt_of_lt_of_le l0 hsz)).trans q0, (hb.cell (p := ⟨b2, o2 + q * 3 + 1, none⟩) (Nat.lt_of_lt_of_le l0 hsz)).trans q1, (hb.cell (p := ⟨b2, o2 + q * 3 + 2, none⟩) (Nat.lt_of_lt_of_le l0 hsz)).trans q2, (hb.cell (p := ⟨w.heap.size, i, none⟩) (Nat.lt_of_lt_of_le l1 hsz)).trans q3, (hb.cell (p := ⟨(g i), q + 1, none⟩) (Nat.lt_of_lt_of_le l2 hsz)).trans q4, ⟨hB.trans (hb.mono hsz), l0, l1, l2⟩⟩
              have KD : Hid (∀ X : World, (X.cell? ⟨b2, o2 + q * 3, none⟩ = some (.int .i64 yk) ∧ X.cell? ⟨b2, o2 + q * 3 + 1, none⟩ = some (.string yt) ∧ X.cell? ⟨b2, o2 + q * 3 + 2, none⟩ = some (.int .i64 yd) ∧ X.cell? ⟨w.heap.size, i, none⟩ = some (.slice (some ⟨g i, 0, none⟩) (b.length + 1) (b.length + 1)) ∧ X.cell? ⟨(g i), q + 1, none⟩ = some (.int .i64 (tabI a b i (q + 1))) ∧ Hid (Below wy.heap.size wy X ∧ b2 < wy.heap.size ∧ w.heap.size < wy.heap.size ∧ (g i) < wy.heap.size)) → (X.drew.cell? ⟨b2, o2 + q * 3, none⟩ = some (.int .i64 yk) ∧ X.drew.cell? ⟨b2, o2 + q * 3 + 1, none⟩ = some (.string yt) ∧ X.drew.cell? ⟨b2, o2 + q * 3 + 2, none⟩ = some (.int .i64 yd) ∧ X.drew.cell? ⟨w.heap.size, i, none⟩ = some (.slice (some ⟨g i, 0, none⟩) (b.length + 1) (b.length + 1)) ∧ X.drew.cell? ⟨(g i), q + 1, none⟩ = some (.int .i64 (tabI a b i (q + 1))) ∧ Hid (Below wy.heap.size wy X.drew ∧ b2 < wy.heap.size ∧ w.heap.size < wy.heap.size ∧ (g i) < wy.heap.size))) := by
                rintro X ⟨q0, q1, q2, q3, q4, hH⟩
                exact ⟨q0, q1, q2, q3, q4, ⟨below_drewN hH.out.1 1, hH.out.2⟩⟩
              have K0 : Hid (wy.cell? ⟨b2, o2 + q * 3, none⟩ = some (.int .i64 yk) ∧ wy.cell? ⟨b2, o2 + q * 3 + 1, none⟩ = some (.string yt) ∧ wy.cell? ⟨b2, o2 + q * 3 + 2, none⟩ = some (.int .i64 yd) ∧ wy.cell? ⟨w.heap.size, i, none⟩ = some (.slice (some ⟨g i, 0, none⟩) (b.length + 1) (b.length + 1)) ∧ wy.cell? ⟨(g i), q + 1, none⟩ = some (.int .i64 (tabI a b i (q + 1))) ∧ Hid (Below wy.heap.size wy wy ∧ b2 < wy.heap.size ∧ w.heap.size < wy.heap.size ∧ (g i) < wy.heap.size)) := ⟨(p1), (p2), (p3), (o1), (c1), ⟨Below.refl _ _, (hl2), (hlg), (hlr)⟩⟩
              go_region_held3 (fun w' => w'.cell? ⟨b2, o2 + q * 3, none⟩ = some (.int .i64 yk) ∧ w'.cell? ⟨b2, o2 + q * 3 + 1, none⟩ = some (.string yt) ∧ w'.cell? ⟨b2, o2 + q * 3 + 2, none⟩ = some (.int .i64 yd) ∧ w'.cell? ⟨w.heap.size, i, none⟩ = some (.slice (some ⟨g i, 0, none⟩) (b.length + 1) (b.length + 1)) ∧ w'.cell? ⟨(g i), q + 1, none⟩ = some (.int .i64 (tabI a b i (q + 1))) ∧ Hid (Below wy.heap.size wy w' ∧ b2 < wy.heap.size ∧ w.heap.size < wy.heap.size ∧ (g i) < wy.heap.size))
                (first | exact K0.out | exact KD.out _ K0.out | assumption | exact KP.out _ _ hb' (KD.out _ K0.out) | (refine KP.out _ _ hb' ?_; with_reducible_and_instances assumption) | (refine KD.out _ ?_; with_reducible_and_instances assumption))
                (first
                  | (go_at_call 42; refine (alone_any yk yd yt _).mono ?_; rintro e w' ⟨rfl, hb'⟩))
              rename_i hh
              obtain ⟨t0, t1, t2, t3, t4, tH⟩ := hh
              clear KP KD K0
              obtain ⟨wa, rfl⟩ : ∃ wz : World, wz = w' := ⟨_, rfl⟩
              have T1 := Lib.hid (HT.out.below tH.out.1)
              have B1 := Lib.hid (HBW.out.trans (tH.out.1.mono HBW.out.size))
              have hz1 := tH.out.1.size
              clear p1 p2 p3 hl2 hlg hlr o1 c1
              have p1 := t0
              have p2 := t1
              have p3 := t2
              have hl2 : b2 < wa.heap.size := by omega
              clear tH t0 t1 t2 t3 t4
              have o0 := T1.out.out i (Nat.le_refl _) (by omega)
              have c9 := T1.out.cell i q (Nat.le_refl _) (by omega) (by omega)
              have c9f := T1.out.free i q (Nat.le_refl _) (by omega)
              go_wp2_with fail
              all_goals
                exact ⟨⟨q, by omega, by go_num, HFIN.out _ _ T1.out (by have := HEQ'.out; clear HFIN; omega), T1.out.belowSet B1.out i q (Nat.le_refl _) (by omega) _⟩, by simp [intOf]; try omega⟩
            · have hq' : b.length ≤ q := by omega
              have k1 : ¬ (q : Int) < (b.length : Int) := by omega
              have k2 : ((q : Int) == (b.length : Int)) = true := by simp; omega
              have HEQ' := Lib.hid (tab_end a b i q (by omega) (by omega))
              have o0 := HT.out.out i (Nat.le_refl _) (by omega)
              have c9 := HT.out.cell i q (Nat.le_refl _) (by omega) (by omega)
              have c9f := HT.out.free i q (Nat.le_refl _) (by omega)
              go_wp2_with fail
              all_goals
                exact ⟨⟨q, by omega, by go_num, HFIN.out _ _ HT.out (by have := HEQ'.out; clear HFIN; omega), HT.out.belowSet HBW.out i q (Nat.le_refl _) (by omega) _⟩, by simp [intOf]; try omega⟩

end Go.Proofs.Yteccphcophjhpaa
