
/-
  The canonical script: the reference's walk of Align.
-/
import Derived.Test.YteccphcophjhpaaMathEd
import Derived.Test.YteccphcophjhpaaTable
namespace Go.Proofs.Yteccphcophjhpaa
open Go.RowKit

set_option maxRecDepth 100000 in
set_option maxHeartbeats 16000000 in
theorem ralign_any (a b : List Tk) (va vb : Value) (w : World) (ha : RdT w va a) (hb : RdT w vb b) (hla : a.length ≤ 100000) (hlb : b.length ≤ 100000) (hia : ∀ x ∈ a, TkD x) (hib : ∀ x ∈ b, TkD x) :
    Calls Try.prog 22 #[va, vb] w (RetOwn 43 edC 2 w (alnL a b)) := by
  obtain ⟨A, c, rfl, _, _⟩ := ha.shape
  obtain ⟨A2, c2, rfl, _, _⟩ := hb.shape
  have HA := Lib.hid ha
  have HB := Lib.hid hb
  have HIA := Lib.hid hia
  have HIB := Lib.hid hib
  have HCT := Lib.hid (table_any a b _ _ w ha hb hla hlb hia hib)
  clear ha hb hia hib
  go_enter Try.func22, Try.ntmps22
  go_wp2_with fail
  refine (HCT.out).mono ?_
  rintro e w1 ⟨G, g, rfl, hT, hb1⟩
  have HT := Lib.hid hT
  have HB1 := Lib.hid hb1
  have hz1 := hb1.size
  have hGl := hT.outer.lt
  clear hT hb1 HCT
  go_wp2_with fail
  go_loopw [6, 7, 8] (fun ov iv kv wr => ∃ (i k : Nat) (L : List Ed) (n : Nat), i ≤ a.length ∧ k ≤ b.length ∧ a.length + b.length ≤ n + i + k ∧ iv = .int .i64 i ∧ kv = .int .i64 k ∧ OwnE 43 edC 2 wr w1.heap.size ov L ∧ Hid (Below w1.heap.size w1 wr) ∧ Hid (L ++ alnF a b n i k = alnL a b) ∧ L.length ≤ i + k) (fun _ iv kv _ => a.length + b.length - (intOf iv).toNat - (intOf kv).toNat)
  case atStart => exact ⟨0, 0, [], a.length + b.length, Nat.zero_le _, Nat.zero_le _, by omega, rfl, rfl, OwnE.nil, Below.refl _ _, rfl, Nat.zero_le _⟩
  case round =>
    obtain ⟨i, k, L, n, hi, hk, hn, rfl, rfl, hown, HBR, HTGT, hL⟩ := hrel
    have HO := Lib.hid hown
    obtain ⟨Ao, co, hvo⟩ := own_shape hown
    subst hvo
    clear hown
    have hzr := HBR.out.size
    by_cases hdone : i < a.length ∨ k < b.length
    · cases n with
      | zero => omega
      | succ n =>
        have HSQ : Hid (L ++ (alnS a b i k).1 :: alnF a b n (alnS a b i k).2.1 (alnS a b i k).2.2 = alnL a b) := by have h := HTGT.out; rw [alnF, if_pos hdone] at h; exact h
        clear HTGT
        have HTGT := HSQ
        have HTR := Lib.hid (HT.out.below HBR.out)
        have hlg := HTR.out.outer.lt
        have t00 := tab_bd a b i k
        have t10 := tab_bd a b (i + 1) k
        have t11 := tab_bd a b (i + 1) (k + 1)
        have e3 : IntKind.i64.wrap ((i : Int) + 1) = (i : Int) + 1 := by rw [IntKind.wrap_i64]; omega
        have e4 : ((i : Int) + 1).toNat = i + 1 := by omega
        have e5 : 0 ≤ (i : Int) + 1 := by omega
        have e5b : 0 ≤ (i : Int) := by omega
        have f3 : IntKind.i64.wrap ((k : Int) + 1) = (k : Int) + 1 := by rw [IntKind.wrap_i64]; omega
        have f4 : ((k : Int) + 1).toNat = k + 1 := by omega
        have f5 : 0 ≤ (k : Int) + 1 := by omega
        have f1 : (k : Int) < (b.length : Int) + 1 := by omega
        have e2 : (i : Int) < (a.length : Int) + 1 := by omega
        by_cases hia : i < a.length
        · have i1 : (i : Int) < (a.length : Int) := by omega
          have i1d : decide ((i : Int) < (a.length : Int)) = true := by simpa using i1
          have e6 : (i : Int) + 1 < (a.length : Int) + 1 := by omega
          obtain ⟨bb, ob, rfl, hbl, q1, q2, q3⟩ := RdT.at_ HA.out i hia
          have hbx := HB1.out.trans (HBR.out.mono hz1)
          rw [← hbx.cell (p := ⟨bb, ob + i * 3, none⟩) hbl] at q1
          rw [← hbx.cell (p := ⟨bb, ob + i * 3 + 1, none⟩) hbl] at q2
          rw [← hbx.cell (p := ⟨bb, ob + i * 3 + 2, none⟩) hbl] at q3
          clear hbx
          have hl0 : bb < wr.heap.size := by omega
          have hsx := single_bd a[i]
          have hxi := HIA.out a[i] (List.getElem_mem hia)
          have o0 := HTR.out.out i (Nat.zero_le _) (by omega)
          have o1 := HTR.out.out (i + 1) (Nat.zero_le _) (by omega)
          have c0 := HTR.out.cell i k (Nat.zero_le _) (by omega) (by omega)
          have c1 := HTR.out.cell (i + 1) k (Nat.zero_le _) (by omega) (by omega)
          have hl0g := HTR.out.lt i (Nat.zero_le _) (by omega)
          have hl1g := HTR.out.lt (i + 1) (Nat.zero_le _) (by omega)
          by_cases hkb : k < b.length
          · have k1 : (k : Int) < (b.length : Int) := by omega
            have f6 : (k : Int) + 1 < (b.length : Int) + 1 := by omega
            obtain ⟨b2, o2, rfl, hbl2, p1, p2, p3⟩ := RdT.at_ HB.out k hkb
            have hbx := HB1.out.trans (HBR.out.mono hz1)
            rw [← hbx.cell (p := ⟨b2, o2 + k * 3, none⟩) hbl2] at p1
            rw [← hbx.cell (p := ⟨b2, o2 + k * 3 + 1, none⟩) hbl2] at p2
            rw [← hbx.cell (p := ⟨b2, o2 + k * 3 + 2, none⟩) hbl2] at p3
            clear hbx
            have hl2 : b2 < wr.heap.size := by omega
            have hyi := HIB.out b[k] (List.getElem_mem hkb)
            have c2 := HTR.out.cell (i + 1) (k + 1) (Nat.zero_le _) (by omega) (by omega)
            have HS0 : Hid (alnS a b i k = if costOk a[i] b[k] = true ∧ costI a[i] b[k] + tabI a b (i + 1) (k + 1) = tabI a b i k then (⟨i, k⟩, i + 1, k + 1)
                else if singleI a[i] + tabI a b (i + 1) k = tabI a b i k then (⟨i, -1⟩, i + 1, k) else (⟨-1, k⟩, i, k + 1)) := by show alnS a b i k = _; unfold alnS; rw [dif_pos ⟨hia, hkb⟩]
            generalize a[i] = x at q1 q2 q3 hsx hxi HS0
            obtain ⟨xk, xt, xd⟩ := x
            have hxt : xt.size ≤ maxLen := hxi.1
            clear hxi
            simp only at q1 q2 q3
            generalize b[k] = y at p1 p2 p3 hyi HS0
            obtain ⟨yk, yt, yd⟩ := y
            have hyt : yt.size ≤ maxLen := hyi.1
            clear hyi
            simp only at p1 p2 p3
            have hcb := costV_bd ⟨xk, xt, xd⟩ ⟨yk, yt, yd⟩
            have u1 : IntKind.i64.wrap (singleI ⟨xk, xt, xd⟩ + tabI a b (i + 1) k) = singleI ⟨xk, xt, xd⟩ + tabI a b (i + 1) k := by rw [IntKind.wrap_i64]; omega
            have u3 : IntKind.i64.wrap (costV ⟨xk, xt, xd⟩ ⟨yk, yt, yd⟩ + tabI a b (i + 1) (k + 1)) = costV ⟨xk, xt, xd⟩ ⟨yk, yt, yd⟩ + tabI a b (i + 1) (k + 1) := by rw [IntKind.wrap_i64]; omega
            by_cases hc : costOk ⟨xk, xt, xd⟩ ⟨yk, yt, yd⟩ = true
            · have HV := Lib.hid (costV_ok hc)
              by_cases hq : costV ⟨xk, xt, xd⟩ ⟨yk, yt, yd⟩ + tabI a b (i + 1) (k + 1) = tabI a b i k
              · have HST : Hid (alnS a b i k = (⟨i, k⟩, i + 1, k + 1)) := Lib.hid (HS0.out.trans (if_pos ⟨hc, by rw [← HV.out]; exact hq⟩))
                have b0 : (costV ⟨xk, xt, xd⟩ ⟨yk, yt, yd⟩ + tabI a b (i + 1) (k + 1) == tabI a b i k) = true := by simpa using hq
                clear hq HS0 HV
                go_wp2_with fail
                have KP : Hid (∀ X X' : World, Below X.heap.size X X' → (X.cell? ⟨bb, ob + i * 3, none⟩ = some (.int .i64 xk) ∧ X.cell? ⟨bb, ob + i * 3 + 1, none⟩ = some (.string xt) ∧ X.cell? ⟨bb, ob + i * 3 + 2, none⟩ = some (.int .i64 xd) ∧ X.cell? ⟨b2, o2 + k * 3, none⟩ = some (.int .i64 yk) ∧ X.cell? ⟨b2, o2 + k * 3 + 1, none⟩ = some (.string yt) ∧ X.cell? ⟨b2, o2 + k * 3 + 2, none⟩ = some (.int .i64 yd) ∧ X.cell? ⟨G, i, none⟩ = some (.slice (some ⟨g i, 0, none⟩) (b.length + 1) (b.length + 1)) ∧ X.cell? ⟨G, i + 1, none⟩ = some (.slice (some ⟨g (i + 1), 0, none⟩) (b.length + 1) (b.length + 1)) ∧ X.cell? ⟨(g i), k, none⟩ = some (.int .i64 (tabI a b i k)) ∧ X.cell? ⟨(g (i + 1)), k, none⟩ = some (.int .i64 (tabI a b (i + 1) k)) ∧ X.cell? ⟨(g (i + 1)), k + 1, none⟩ = some (.int .i64 (tabI a b (i + 1) (k + 1))) ∧ Hid (Below wr.heap.size wr X ∧ bb < wr.heap.size ∧ b2 < wr.heap.size ∧ G < wr.heap.size ∧ (g i) < wr.heap.size ∧ (g (i + 1)) < wr.heap.size)) → (X'.cell? ⟨bb, ob + i * 3, none⟩ = some (.int .i64 xk) ∧ X'.cell? ⟨bb, ob + i * 3 + 1, none⟩ = some (.string xt) ∧ X'.cell? ⟨bb, ob + i * 3 + 2, none⟩ = some (.int .i64 xd) ∧ X'.cell? ⟨b2, o2 + k * 3, none⟩ = some (.int .i64 yk) ∧ X'.cell? ⟨b2, o2 + k * 3 + 1, none⟩ = some (.string yt) ∧ X'.cell? ⟨b2, o2 + k * 3 + 2, none⟩ = some (.int .i64 yd) ∧ X'.cell? ⟨G, i, none⟩ = some (.slice (some ⟨g i, 0, none⟩) (b.length + 1) (b.length + 1)) ∧ X'.cell? ⟨G, i + 1, none⟩ = some (.slice (some ⟨g (i + 1), 0, none⟩) (b.length + 1) (b.length + 1)) ∧ X'.cell? ⟨(g i), k, none⟩ = some (.int .i64 (tabI a b i k)) ∧ X'.cell? ⟨(g (i + 1)), k, none⟩ = some (.int .i64 (tabI a b (i + 1) k)) ∧ X'.cell? ⟨(g (i + 1)), k + 1, none⟩ = some (.int .i64 (tabI a b (i + 1) (k + 1))) ∧ Hid (Below wr.heap.size wr X' ∧ bb < wr.heap.size ∧ b2 < wr.heap.size ∧ G < wr.heap.size ∧ (g i) < wr.heap.size ∧ (g (i + 1)) < wr.heap.size))) := by
                  rintro X X' hb ⟨q0, q1, q2, q3, q4, q5, q6, q7, q8, q9, q10, hH⟩
                  obtain ⟨hB, l0, l1, l2, l3, l4⟩ := hH.out
                  have hsz := hB.size
                  exact ⟨(hb.cell (p := ⟨bb, ob + i * 3, none⟩) (Nat.lt_of_lt_of_le l0 hsz)).trans q0, (hb.cell (p := ⟨bb, ob + i * 3 + 1, none⟩) (Nat.lt_of_lt_of_le l0 hsz)).trans q1, (hb.cell (p := ⟨bb, ob + i * 3 + 2, none⟩) (Nat.lt_of_lt_of_le l0 hsz)).trans q2, (hb.cell (p := ⟨b2, o2 + k * 3, none⟩) (Nat.lt_of_lt_of_le l1 hsz)).trans q3, (hb.cell (p := ⟨b2, o2 + k * 3 + 1, none⟩) (Nat.lt_of_lt_of_le l1 hsz)).trans q4, (hb.cell (p := ⟨b2, o2 + k * 3 + 2, none⟩) (Nat.lt_of_lt_of_le l1 hsz)).trans q5, (hb.cell (p := ⟨G, i, none⟩) (Nat.lt_of_lt_of_le l2 hsz)).trans q6, (hb.cell (p := ⟨G, i + 1, none⟩) (Nat.lt_of_lt_of_le l2 hsz)).trans q7, (hb.cell (p := ⟨(g i), k, none⟩) (Nat.lt_of_lt_of_le l3 hsz)).trans q8, (hb.cell (p := ⟨(g (i + 1)), k, none⟩) (Nat.lt_of_lt_of_le l4 hsz)).trans q9, (hb.cell (p := ⟨(g (i + 1)), k + 1, none⟩) (Nat.lt_of_lt_of_le l4 hsz)).trans q10, ⟨hB.trans (hb.mono hsz), l0, l1, l2, l3, l4⟩⟩
                have KD : Hid (∀ X : World, (X.cell? ⟨bb, ob + i * 3, none⟩ = some (.int .i64 xk) ∧ X.cell? ⟨bb, ob + i * 3 + 1, none⟩ = some (.string xt) ∧ X.cell? ⟨bb, ob + i * 3 + 2, none⟩ = some (.int .i64 xd) ∧ X.cell? ⟨b2, o2 + k * 3, none⟩ = some (.int .i64 yk) ∧ X.cell? ⟨b2, o2 + k * 3 + 1, none⟩ = some (.string yt) ∧ X.cell? ⟨b2, o2 + k * 3 + 2, none⟩ = some (.int .i64 yd) ∧ X.cell? ⟨G, i, none⟩ = some (.slice (some ⟨g i, 0, none⟩) (b.length + 1) (b.length + 1)) ∧ X.cell? ⟨G, i + 1, none⟩ = some (.slice (some ⟨g (i + 1), 0, none⟩) (b.length + 1) (b.length + 1)) ∧ X.cell? ⟨(g i), k, none⟩ = some (.int .i64 (tabI a b i k)) ∧ X.cell? ⟨(g (i + 1)), k, none⟩ = some (.int .i64 (tabI a b (i + 1) k)) ∧ X.cell? ⟨(g (i + 1)), k + 1, none⟩ = some (.int .i64 (tabI a b (i + 1) (k + 1))) ∧ Hid (Below wr.heap.size wr X ∧ bb < wr.heap.size ∧ b2 < wr.heap.size ∧ G < wr.heap.size ∧ (g i) < wr.heap.size ∧ (g (i + 1)) < wr.heap.size)) → (X.drew.cell? ⟨bb, ob + i * 3, none⟩ = some (.int .i64 xk) ∧ X.drew.cell? ⟨bb, ob + i * 3 + 1, none⟩ = some (.string xt) ∧ X.drew.cell? ⟨bb, ob + i * 3 + 2, none⟩ = some (.int .i64 xd) ∧ X.drew.cell? ⟨b2, o2 + k * 3, none⟩ = some (.int .i64 yk) ∧ X.drew.cell? ⟨b2, o2 + k * 3 + 1, none⟩ = some (.string yt) ∧ X.drew.cell? ⟨b2, o2 + k * 3 + 2, none⟩ = some (.int .i64 yd) ∧ X.drew.cell? ⟨G, i, none⟩ = some (.slice (some ⟨g i, 0, none⟩) (b.length + 1) (b.length + 1)) ∧ X.drew.cell? ⟨G, i + 1, none⟩ = some (.slice (some ⟨g (i + 1), 0, none⟩) (b.length + 1) (b.length + 1)) ∧ X.drew.cell? ⟨(g i), k, none⟩ = some (.int .i64 (tabI a b i k)) ∧ X.drew.cell? ⟨(g (i + 1)), k, none⟩ = some (.int .i64 (tabI a b (i + 1) k)) ∧ X.drew.cell? ⟨(g (i + 1)), k + 1, none⟩ = some (.int .i64 (tabI a b (i + 1) (k + 1))) ∧ Hid (Below wr.heap.size wr X.drew ∧ bb < wr.heap.size ∧ b2 < wr.heap.size ∧ G < wr.heap.size ∧ (g i) < wr.heap.size ∧ (g (i + 1)) < wr.heap.size))) := by
                  rintro X ⟨q0, q1, q2, q3, q4, q5, q6, q7, q8, q9, q10, hH⟩
                  exact ⟨q0, q1, q2, q3, q4, q5, q6, q7, q8, q9, q10, ⟨below_drewN hH.out.1 1, hH.out.2⟩⟩
                have K0 : Hid (wr.cell? ⟨bb, ob + i * 3, none⟩ = some (.int .i64 xk) ∧ wr.cell? ⟨bb, ob + i * 3 + 1, none⟩ = some (.string xt) ∧ wr.cell? ⟨bb, ob + i * 3 + 2, none⟩ = some (.int .i64 xd) ∧ wr.cell? ⟨b2, o2 + k * 3, none⟩ = some (.int .i64 yk) ∧ wr.cell? ⟨b2, o2 + k * 3 + 1, none⟩ = some (.string yt) ∧ wr.cell? ⟨b2, o2 + k * 3 + 2, none⟩ = some (.int .i64 yd) ∧ wr.cell? ⟨G, i, none⟩ = some (.slice (some ⟨g i, 0, none⟩) (b.length + 1) (b.length + 1)) ∧ wr.cell? ⟨G, i + 1, none⟩ = some (.slice (some ⟨g (i + 1), 0, none⟩) (b.length + 1) (b.length + 1)) ∧ wr.cell? ⟨(g i), k, none⟩ = some (.int .i64 (tabI a b i k)) ∧ wr.cell? ⟨(g (i + 1)), k, none⟩ = some (.int .i64 (tabI a b (i + 1) k)) ∧ wr.cell? ⟨(g (i + 1)), k + 1, none⟩ = some (.int .i64 (tabI a b (i + 1) (k + 1))) ∧ Hid (Below wr.heap.size wr wr ∧ bb < wr.heap.size ∧ b2 < wr.heap.size ∧ G < wr.heap.size ∧ (g i) < wr.heap.size ∧ (g (i + 1)) < wr.heap.size)) := ⟨(q1), (q2), (q3), (p1), (p2), (p3), (o0), (o1), (c0), (c1), (c2), ⟨Below.refl _ _, (hl0), (hl2), (hlg), (hl0g), (hl1g)⟩⟩
                go_region_held3 (fun w' => w'.cell? ⟨bb, ob + i * 3, none⟩ = some (.int .i64 xk) ∧ w'.cell? ⟨bb, ob + i * 3 + 1, none⟩ = some (.string xt) ∧ w'.cell? ⟨bb, ob + i * 3 + 2, none⟩ = some (.int .i64 xd) ∧ w'.cell? ⟨b2, o2 + k * 3, none⟩ = some (.int .i64 yk) ∧ w'.cell? ⟨b2, o2 + k * 3 + 1, none⟩ = some (.string yt) ∧ w'.cell? ⟨b2, o2 + k * 3 + 2, none⟩ = some (.int .i64 yd) ∧ w'.cell? ⟨G, i, none⟩ = some (.slice (some ⟨g i, 0, none⟩) (b.length + 1) (b.length + 1)) ∧ w'.cell? ⟨G, i + 1, none⟩ = some (.slice (some ⟨g (i + 1), 0, none⟩) (b.length + 1) (b.length + 1)) ∧ w'.cell? ⟨(g i), k, none⟩ = some (.int .i64 (tabI a b i k)) ∧ w'.cell? ⟨(g (i + 1)), k, none⟩ = some (.int .i64 (tabI a b (i + 1) k)) ∧ w'.cell? ⟨(g (i + 1)), k + 1, none⟩ = some (.int .i64 (tabI a b (i + 1) (k + 1))) ∧ Hid (Below wr.heap.size wr w' ∧ bb < wr.heap.size ∧ b2 < wr.heap.size ∧ G < wr.heap.size ∧ (g i) < wr.heap.size ∧ (g (i + 1)) < wr.heap.size))
                  (first | exact K0.out | exact KD.out _ K0.out | assumption | exact KP.out _ _ hb' (KD.out _ K0.out) | (refine KP.out _ _ hb' ?_; with_reducible_and_instances assumption) | (refine KD.out _ ?_; with_reducible_and_instances assumption))
                  (first
                    | (go_at_call 16; refine (rcost_any xk xd yk yd xt yt _ hxt hyt).mono ?_; rintro e w' ⟨rfl, hb'⟩))
                rename_i hh
                obtain ⟨t0, t1, t2, t3, t4, t5, t6, t7, t8, t9, t10, tH⟩ := hh
                clear KP KD K0
                obtain ⟨wa, rfl⟩ : ∃ wz : World, wz = w' := ⟨_, rfl⟩
                have O1 := Lib.hid (own_below HO.out tH.out.1 (Nat.le_refl _))
                have B1 := Lib.hid (HBR.out.trans (tH.out.1.mono HBR.out.size))
                have hz1 := tH.out.1.size
                have hzw1 := B1.out.size
                clear tH q1 q2 q3 p1 p2 p3 o0 o1 c0 c1 c2 t3 t4 t5
                have m0 : bb < wa.heap.size := by omega
                have mg : G < wa.heap.size := by omega
                have mg0 : g i < wa.heap.size := by omega
                have mg1 : g (i + 1) < wa.heap.size := by omega
                clear hl0 hl2 hlg hl0g hl1g
                clear m0 mg mg0 mg1
                go_wp2_with fail
                go_quiet (fail)
                have O2 : Hid (OwnE 43 edC 2 (wa.drewN nq) w1.heap.size (.slice Ao L.length co) L) := O1
                have B2 : Hid (Below w1.heap.size w1 (wa.drewN nq)) := Lib.hid (below_drewN B1.out nq)
                have hzd : w1.heap.size ≤ (wa.drewN nq).heap.size := hzw1
                clear O1 B1 hzw1 hz1 t0 t1 t2 t6 t7 t8 t9 t10
                generalize wa.drewN nq = wd at O2 B2 hzd
                go_wp2_with (at_builtin; go_must (refine wpList_app1 rfl (.tmp 68) (.tmp 72) 41 43 rfl Try.underlying41 _ 2 16 edit_info rfl (by decide) w1.heap.size _ _ _ rfl (by exact World.ownsRow.alloc O2.out _) ⟨wd.heap.size, 0, none⟩ 1 (edC (⟨i, k⟩)) rfl rfl (by exact cells_new _ _ _) (edC_one _) (by omega) (by decide) (by simp; omega) ?_); intro g9 cap w9 hown1 hg1 hbel1 hgr1)
                have HB9 := Lib.hid (hbel1 _ _ (Nat.le_refl _) (by exact B2.out.alloc B2.out.size _))
                have HO9 := Lib.hid (OwnE.snoc hown1)
                clear hown1 hg1 hbel1 hgr1
                go_wp2_with fail
                refine ⟨⟨i + 1, k + 1, L ++ [⟨i, k⟩], n, by omega, by omega, by omega, by go_num, by go_num, HO9.out, HB9.out, ?_, by (try simp only [List.length_append, List.length_singleton]); omega⟩, by simp [intOf]; try omega⟩
                show L ++ [⟨i, k⟩] ++ alnF a b n _ _ = _
                rw [List.append_assoc, ← HTGT.out, HST.out]
                rfl
              · have HS1 : Hid (alnS a b i k = if singleI ⟨xk, xt, xd⟩ + tabI a b (i + 1) k = tabI a b i k then (⟨i, -1⟩, i + 1, k) else (⟨-1, k⟩, i, k + 1)) := Lib.hid (HS0.out.trans (if_neg fun e => hq (by rw [HV.out]; exact e.2)))
                have b0 : (costV ⟨xk, xt, xd⟩ ⟨yk, yt, yd⟩ + tabI a b (i + 1) (k + 1) == tabI a b i k) = false := by simpa using hq
                clear hq HS0 HV
                go_wp2_with fail
                have KP : Hid (∀ X X' : World, Below X.heap.size X X' → (X.cell? ⟨bb, ob + i * 3, none⟩ = some (.int .i64 xk) ∧ X.cell? ⟨bb, ob + i * 3 + 1, none⟩ = some (.string xt) ∧ X.cell? ⟨bb, ob + i * 3 + 2, none⟩ = some (.int .i64 xd) ∧ X.cell? ⟨b2, o2 + k * 3, none⟩ = some (.int .i64 yk) ∧ X.cell? ⟨b2, o2 + k * 3 + 1, none⟩ = some (.string yt) ∧ X.cell? ⟨b2, o2 + k * 3 + 2, none⟩ = some (.int .i64 yd) ∧ X.cell? ⟨G, i, none⟩ = some (.slice (some ⟨g i, 0, none⟩) (b.length + 1) (b.length + 1)) ∧ X.cell? ⟨G, i + 1, none⟩ = some (.slice (some ⟨g (i + 1), 0, none⟩) (b.length + 1) (b.length + 1)) ∧ X.cell? ⟨(g i), k, none⟩ = some (.int .i64 (tabI a b i k)) ∧ X.cell? ⟨(g (i + 1)), k, none⟩ = some (.int .i64 (tabI a b (i + 1) k)) ∧ X.cell? ⟨(g (i + 1)), k + 1, none⟩ = some (.int .i64 (tabI a b (i + 1) (k + 1))) ∧ Hid (Below wr.heap.size wr X ∧ bb < wr.heap.size ∧ b2 < wr.heap.size ∧ G < wr.heap.size ∧ (g i) < wr.heap.size ∧ (g (i + 1)) < wr.heap.size)) → (X'.cell? ⟨bb, ob + i * 3, none⟩ = some (.int .i64 xk) ∧ X'.cell? ⟨bb, ob + i * 3 + 1, none⟩ = some (.string xt) ∧ X'.cell? ⟨bb, ob + i * 3 + 2, none⟩ = some (.int .i64 xd) ∧ X'.cell? ⟨b2, o2 + k * 3, none⟩ = some (.int .i64 yk) ∧ X'.cell? ⟨b2, o2 + k * 3 + 1, none⟩ = some (.string yt) ∧ X'.cell? ⟨b2, o2 + k * 3 + 2, none⟩ = some (.int .i64 yd) ∧ X'.cell? ⟨G, i, none⟩ = some (.slice (some ⟨g i, 0, none⟩) (b.length + 1) (b.length + 1)) ∧ X'.cell? ⟨G, i + 1, none⟩ = some (.slice (some ⟨g (i + 1), 0, none⟩) (b.length + 1) (b.length + 1)) ∧ X'.cell? ⟨(g i), k, none⟩ = some (.int .i64 (tabI a b i k)) ∧ X'.cell? ⟨(g (i + 1)), k, none⟩ = some (.int .i64 (tabI a b (i + 1) k)) ∧ X'.cell? ⟨(g (i + 1)), k + 1, none⟩ = some (.int .i64 (tabI a b (i + 1) (k + 1))) ∧ Hid (Below wr.heap.size wr X' ∧ bb < wr.heap.size ∧ b2 < wr.heap.size ∧ G < wr.heap.size ∧ (g i) < wr.heap.size ∧ (g (i + 1)) < wr.heap.size))) := by
                  rintro X X' hb ⟨q0, q1, q2, q3, q4, q5, q6, q7, q8, q9, q10, hH⟩
                  obtain ⟨hB, l0, l1, l2, l3, l4⟩ := hH.out
                  have hsz := hB.size
                  exact ⟨(hb.cell (p := ⟨bb, ob + i * 3, none⟩) (Nat.lt_of_lt_of_le l0 hsz)).trans q0, (hb.cell (p := ⟨bb, ob + i * 3 + 1, none⟩) (Nat.lt_of_lt_of_le l0 hsz)).trans q1, (hb.cell (p := ⟨bb, ob + i * 3 + 2, none⟩) (Nat.lt_of_lt_of_le l0 hsz)).trans q2, (hb.cell (p := ⟨b2, o2 + k * 3, none⟩) (Nat.lt_of_lt_of_le l1 hsz)).trans q3, (hb.cell (p := ⟨b2, o2 + k * 3 + 1, none⟩) (Nat.lt_of_lt_of_le l1 hsz)).trans q4, (hb.cell (p := ⟨b2, o2 + k * 3 + 2, none⟩) (Nat.lt_of_lt_of_le l1 hsz)).trans q5, (hb.cell (p := ⟨G, i, none⟩) (Nat.lt_of_lt_of_le l2 hsz)).trans q6, (hb.cell (p := ⟨G, i + 1, none⟩) (Nat.lt_of_lt_of_le l2 hsz)).trans q7, (hb.cell (p := ⟨(g i), k, none⟩) (Nat.lt_of_lt_of_le l3 hsz)).trans q8, (hb.cell (p := ⟨(g (i + 1)), k, none⟩) (Nat.lt_of_lt_of_le l4 hsz)).trans q9, (hb.cell (p := ⟨(g (i + 1)), k + 1, none⟩) (Nat.lt_of_lt_of_le l4 hsz)).trans q10, ⟨hB.trans (hb.mono hsz), l0, l1, l2, l3, l4⟩⟩
                have KD : Hid (∀ X : World, (X.cell? ⟨bb, ob + i * 3, none⟩ = some (.int .i64 xk) ∧ X.cell? ⟨bb, ob + i * 3 + 1, none⟩ = some (.string xt) ∧ X.cell? ⟨bb, ob + i * 3 + 2, none⟩ = some (.int .i64 xd) ∧ X.cell? ⟨b2, o2 + k * 3, none⟩ = some (.int .i64 yk) ∧ X.cell? ⟨b2, o2 + k * 3 + 1, none⟩ = some (.string yt) ∧ X.cell? ⟨b2, o2 + k * 3 + 2, none⟩ = some (.int .i64 yd) ∧ X.cell? ⟨G, i, none⟩ = some (.slice (some ⟨g i, 0, none⟩) (b.length + 1) (b.length + 1)) ∧ X.cell? ⟨G, i + 1, none⟩ = some (.slice (some ⟨g (i + 1), 0, none⟩) (b.length + 1) (b.length + 1)) ∧ X.cell? ⟨(g i), k, none⟩ = some (.int .i64 (tabI a b i k)) ∧ X.cell? ⟨(g (i + 1)), k, none⟩ = some (.int .i64 (tabI a b (i + 1) k)) ∧ X.cell? ⟨(g (i + 1)), k + 1, none⟩ = some (.int .i64 (tabI a b (i + 1) (k + 1))) ∧ Hid (Below wr.heap.size wr X ∧ bb < wr.heap.size ∧ b2 < wr.heap.size ∧ G < wr.heap.size ∧ (g i) < wr.heap.size ∧ (g (i + 1)) < wr.heap.size)) → (X.drew.cell? ⟨bb, ob + i * 3, none⟩ = some (.int .i64 xk) ∧ X.drew.cell? ⟨bb, ob + i * 3 + 1, none⟩ = some (.string xt) ∧ X.drew.cell? ⟨bb, ob + i * 3 + 2, none⟩ = some (.int .i64 xd) ∧ X.drew.cell? ⟨b2, o2 + k * 3, none⟩ = some (.int .i64 yk) ∧ X.drew.cell? ⟨b2, o2 + k * 3 + 1, none⟩ = some (.string yt) ∧ X.drew.cell? ⟨b2, o2 + k * 3 + 2, none⟩ = some (.int .i64 yd) ∧ X.drew.cell? ⟨G, i, none⟩ = some (.slice (some ⟨g i, 0, none⟩) (b.length + 1) (b.length + 1)) ∧ X.drew.cell? ⟨G, i + 1, none⟩ = some (.slice (some ⟨g (i + 1), 0, none⟩) (b.length + 1) (b.length + 1)) ∧ X.drew.cell? ⟨(g i), k, none⟩ = some (.int .i64 (tabI a b i k)) ∧ X.drew.cell? ⟨(g (i + 1)), k, none⟩ = some (.int .i64 (tabI a b (i + 1) k)) ∧ X.drew.cell? ⟨(g (i + 1)), k + 1, none⟩ = some (.int .i64 (tabI a b (i + 1) (k + 1))) ∧ Hid (Below wr.heap.size wr X.drew ∧ bb < wr.heap.size ∧ b2 < wr.heap.size ∧ G < wr.heap.size ∧ (g i) < wr.heap.size ∧ (g (i + 1)) < wr.heap.size))) := by
                  rintro X ⟨q0, q1, q2, q3, q4, q5, q6, q7, q8, q9, q10, hH⟩
                  exact ⟨q0, q1, q2, q3, q4, q5, q6, q7, q8, q9, q10, ⟨below_drewN hH.out.1 1, hH.out.2⟩⟩
                have K0 : Hid (wr.cell? ⟨bb, ob + i * 3, none⟩ = some (.int .i64 xk) ∧ wr.cell? ⟨bb, ob + i * 3 + 1, none⟩ = some (.string xt) ∧ wr.cell? ⟨bb, ob + i * 3 + 2, none⟩ = some (.int .i64 xd) ∧ wr.cell? ⟨b2, o2 + k * 3, none⟩ = some (.int .i64 yk) ∧ wr.cell? ⟨b2, o2 + k * 3 + 1, none⟩ = some (.string yt) ∧ wr.cell? ⟨b2, o2 + k * 3 + 2, none⟩ = some (.int .i64 yd) ∧ wr.cell? ⟨G, i, none⟩ = some (.slice (some ⟨g i, 0, none⟩) (b.length + 1) (b.length + 1)) ∧ wr.cell? ⟨G, i + 1, none⟩ = some (.slice (some ⟨g (i + 1), 0, none⟩) (b.length + 1) (b.length + 1)) ∧ wr.cell? ⟨(g i), k, none⟩ = some (.int .i64 (tabI a b i k)) ∧ wr.cell? ⟨(g (i + 1)), k, none⟩ = some (.int .i64 (tabI a b (i + 1) k)) ∧ wr.cell? ⟨(g (i + 1)), k + 1, none⟩ = some (.int .i64 (tabI a b (i + 1) (k + 1))) ∧ Hid (Below wr.heap.size wr wr ∧ bb < wr.heap.size ∧ b2 < wr.heap.size ∧ G < wr.heap.size ∧ (g i) < wr.heap.size ∧ (g (i + 1)) < wr.heap.size)) := ⟨(q1), (q2), (q3), (p1), (p2), (p3), (o0), (o1), (c0), (c1), (c2), ⟨Below.refl _ _, (hl0), (hl2), (hlg), (hl0g), (hl1g)⟩⟩
                go_region_held3 (fun w' => w'.cell? ⟨bb, ob + i * 3, none⟩ = some (.int .i64 xk) ∧ w'.cell? ⟨bb, ob + i * 3 + 1, none⟩ = some (.string xt) ∧ w'.cell? ⟨bb, ob + i * 3 + 2, none⟩ = some (.int .i64 xd) ∧ w'.cell? ⟨b2, o2 + k * 3, none⟩ = some (.int .i64 yk) ∧ w'.cell? ⟨b2, o2 + k * 3 + 1, none⟩ = some (.string yt) ∧ w'.cell? ⟨b2, o2 + k * 3 + 2, none⟩ = some (.int .i64 yd) ∧ w'.cell? ⟨G, i, none⟩ = some (.slice (some ⟨g i, 0, none⟩) (b.length + 1) (b.length + 1)) ∧ w'.cell? ⟨G, i + 1, none⟩ = some (.slice (some ⟨g (i + 1), 0, none⟩) (b.length + 1) (b.length + 1)) ∧ w'.cell? ⟨(g i), k, none⟩ = some (.int .i64 (tabI a b i k)) ∧ w'.cell? ⟨(g (i + 1)), k, none⟩ = some (.int .i64 (tabI a b (i + 1) k)) ∧ w'.cell? ⟨(g (i + 1)), k + 1, none⟩ = some (.int .i64 (tabI a b (i + 1) (k + 1))) ∧ Hid (Below wr.heap.size wr w' ∧ bb < wr.heap.size ∧ b2 < wr.heap.size ∧ G < wr.heap.size ∧ (g i) < wr.heap.size ∧ (g (i + 1)) < wr.heap.size))
                  (first | exact K0.out | exact KD.out _ K0.out | assumption | exact KP.out _ _ hb' (KD.out _ K0.out) | (refine KP.out _ _ hb' ?_; with_reducible_and_instances assumption) | (refine KD.out _ ?_; with_reducible_and_instances assumption))
                  (first
                    | (go_at_call 16; refine (rcost_any xk xd yk yd xt yt _ hxt hyt).mono ?_; rintro e w' ⟨rfl, hb'⟩))
                rename_i hh
                obtain ⟨t0, t1, t2, t3, t4, t5, t6, t7, t8, t9, t10, tH⟩ := hh
                clear KP KD K0
                obtain ⟨wa, rfl⟩ : ∃ wz : World, wz = w' := ⟨_, rfl⟩
                have O1 := Lib.hid (own_below HO.out tH.out.1 (Nat.le_refl _))
                have B1 := Lib.hid (HBR.out.trans (tH.out.1.mono HBR.out.size))
                have hz1 := tH.out.1.size
                have hzw1 := B1.out.size
                clear tH q1 q2 q3 p1 p2 p3 o0 o1 c0 c1 c2 t3 t4 t5
                have m0 : bb < wa.heap.size := by omega
                have mg : G < wa.heap.size := by omega
                have mg0 : g i < wa.heap.size := by omega
                have mg1 : g (i + 1) < wa.heap.size := by omega
                clear hl0 hl2 hlg hl0g hl1g
                go_wp2_with fail
                go_quiet (fail)
                have O2 : Hid (OwnE 43 edC 2 (wa.drewN nq) w1.heap.size (.slice Ao L.length co) L) := O1
                have B2 : Hid (Below w1.heap.size w1 (wa.drewN nq)) := Lib.hid (below_drewN B1.out nq)
                have u0 : (wa.drewN nq).cell? ⟨bb, ob + i * 3, none⟩ = _ := t0
                have u1' : (wa.drewN nq).cell? ⟨bb, ob + i * 3 + 1, none⟩ = _ := t1
                have u2 : (wa.drewN nq).cell? ⟨bb, ob + i * 3 + 2, none⟩ = _ := t2
                have u6 : (wa.drewN nq).cell? ⟨G, i, none⟩ = _ := t6
                have u7 : (wa.drewN nq).cell? ⟨G, i + 1, none⟩ = _ := t7
                have u8 : (wa.drewN nq).cell? ⟨g i, k, none⟩ = _ := t8
                have u9 : (wa.drewN nq).cell? ⟨g (i + 1), k, none⟩ = _ := t9
                have m0' : bb < (wa.drewN nq).heap.size := m0
                have mg' : G < (wa.drewN nq).heap.size := mg
                have mg0' : g i < (wa.drewN nq).heap.size := mg0
                have mg1' : g (i + 1) < (wa.drewN nq).heap.size := mg1
                have hzd : w1.heap.size ≤ (wa.drewN nq).heap.size := hzw1
                have hzd2 : wr.heap.size ≤ (wa.drewN nq).heap.size := hz1
                generalize wa.drewN nq = wd at O2 B2 u0 u1' u2 u6 u7 u8 u9 m0' mg' mg0' mg1' hzd hzd2
                clear O1 B1 t0 t1 t2 t6 t7 t8 t9 t10 m0 mg mg0 mg1
                by_cases h1 : singleI ⟨xk, xt, xd⟩ + tabI a b (i + 1) k = tabI a b i k
                · have HST : Hid (alnS a b i k = (⟨i, -1⟩, i + 1, k)) := Lib.hid (HS1.out.trans (if_pos h1))
                  have b1 : (singleI ⟨xk, xt, xd⟩ + tabI a b (i + 1) k == tabI a b i k) = true := by simpa using h1
                  clear h1 HS1
                  go_wp2_with fail
                  have KP : Hid (∀ X X' : World, Below X.heap.size X X' → (X.cell? ⟨bb, ob + i * 3, none⟩ = some (.int .i64 xk) ∧ X.cell? ⟨bb, ob + i * 3 + 1, none⟩ = some (.string xt) ∧ X.cell? ⟨bb, ob + i * 3 + 2, none⟩ = some (.int .i64 xd) ∧ X.cell? ⟨G, i, none⟩ = some (.slice (some ⟨g i, 0, none⟩) (b.length + 1) (b.length + 1)) ∧ X.cell? ⟨G, i + 1, none⟩ = some (.slice (some ⟨g (i + 1), 0, none⟩) (b.length + 1) (b.length + 1)) ∧ X.cell? ⟨(g i), k, none⟩ = some (.int .i64 (tabI a b i k)) ∧ X.cell? ⟨(g (i + 1)), k, none⟩ = some (.int .i64 (tabI a b (i + 1) k)) ∧ Hid (Below wd.heap.size wd X ∧ bb < wd.heap.size ∧ G < wd.heap.size ∧ (g i) < wd.heap.size ∧ (g (i + 1)) < wd.heap.size)) → (X'.cell? ⟨bb, ob + i * 3, none⟩ = some (.int .i64 xk) ∧ X'.cell? ⟨bb, ob + i * 3 + 1, none⟩ = some (.string xt) ∧ X'.cell? ⟨bb, ob + i * 3 + 2, none⟩ = some (.int .i64 xd) ∧ X'.cell? ⟨G, i, none⟩ = some (.slice (some ⟨g i, 0, none⟩) (b.length + 1) (b.length + 1)) ∧ X'.cell? ⟨G, i + 1, none⟩ = some (.slice (some ⟨g (i + 1), 0, none⟩) (b.length + 1) (b.length + 1)) ∧ X'.cell? ⟨(g i), k, none⟩ = some (.int .i64 (tabI a b i k)) ∧ X'.cell? ⟨(g (i + 1)), k, none⟩ = some (.int .i64 (tabI a b (i + 1) k)) ∧ Hid (Below wd.heap.size wd X' ∧ bb < wd.heap.size ∧ G < wd.heap.size ∧ (g i) < wd.heap.size ∧ (g (i + 1)) < wd.heap.size))) := by
                    rintro X X' hb ⟨q0, q1, q2, q3, q4, q5, q6, hH⟩
                    obtain ⟨hB, l0, l1, l2, l3⟩ := hH.out
                    have hsz := hB.size
                    exact ⟨(hb.cell (p := ⟨bb, ob + i * 3, none⟩) (Nat.lt_of_lt_of_le l0 hsz)).trans q0, (hb.cell (p := ⟨bb, ob + i * 3 + 1, none⟩) (Nat.lt_of_lt_of_le l0 hsz)).trans q1, (hb.cell (p := ⟨bb, ob + i * 3 + 2, none⟩) (Nat.lt_of_lt_of_le l0 hsz)).trans q2, (hb.cell (p := ⟨G, i, none⟩) (Nat.lt_of_lt_of_le l1 hsz)).trans q3, (hb.cell (p := ⟨G, i + 1, none⟩) (Nat.lt_of_lt_of_le l1 hsz)).trans q4, (hb.cell (p := ⟨(g i), k, none⟩) (Nat.lt_of_lt_of_le l2 hsz)).trans q5, (hb.cell (p := ⟨(g (i + 1)), k, none⟩) (Nat.lt_of_lt_of_le l3 hsz)).trans q6, ⟨hB.trans (hb.mono hsz), l0, l1, l2, l3⟩⟩
                  have KD : Hid (∀ X : World, (X.cell? ⟨bb, ob + i * 3, none⟩ = some (.int .i64 xk) ∧ X.cell? ⟨bb, ob + i * 3 + 1, none⟩ = some (.string xt) ∧ X.cell? ⟨bb, ob + i * 3 + 2, none⟩ = some (.int .i64 xd) ∧ X.cell? ⟨G, i, none⟩ = some (.slice (some ⟨g i, 0, none⟩) (b.length + 1) (b.length + 1)) ∧ X.cell? ⟨G, i + 1, none⟩ = some (.slice (some ⟨g (i + 1), 0, none⟩) (b.length + 1) (b.length + 1)) ∧ X.cell? ⟨(g i), k, none⟩ = some (.int .i64 (tabI a b i k)) ∧ X.cell? ⟨(g (i + 1)), k, none⟩ = some (.int .i64 (tabI a b (i + 1) k)) ∧ Hid (Below wd.heap.size wd X ∧ bb < wd.heap.size ∧ G < wd.heap.size ∧ (g i) < wd.heap.size ∧ (g (i + 1)) < wd.heap.size)) → (X.drew.cell? ⟨bb, ob + i * 3, none⟩ = some (.int .i64 xk) ∧ X.drew.cell? ⟨bb, ob + i * 3 + 1, none⟩ = some (.string xt) ∧ X.drew.cell? ⟨bb, ob + i * 3 + 2, none⟩ = some (.int .i64 xd) ∧ X.drew.cell? ⟨G, i, none⟩ = some (.slice (some ⟨g i, 0, none⟩) (b.length + 1) (b.length + 1)) ∧ X.drew.cell? ⟨G, i + 1, none⟩ = some (.slice (some ⟨g (i + 1), 0, none⟩) (b.length + 1) (b.length + 1)) ∧ X.drew.cell? ⟨(g i), k, none⟩ = some (.int .i64 (tabI a b i k)) ∧ X.drew.cell? ⟨(g (i + 1)), k, none⟩ = some (.int .i64 (tabI a b (i + 1) k)) ∧ Hid (Below wd.heap.size wd X.drew ∧ bb < wd.heap.size ∧ G < wd.heap.size ∧ (g i) < wd.heap.size ∧ (g (i + 1)) < wd.heap.size))) := by
                    rintro X ⟨q0, q1, q2, q3, q4, q5, q6, hH⟩
                    exact ⟨q0, q1, q2, q3, q4, q5, q6, ⟨below_drewN hH.out.1 1, hH.out.2⟩⟩
                  have K0 : Hid (wd.cell? ⟨bb, ob + i * 3, none⟩ = some (.int .i64 xk) ∧ wd.cell? ⟨bb, ob + i * 3 + 1, none⟩ = some (.string xt) ∧ wd.cell? ⟨bb, ob + i * 3 + 2, none⟩ = some (.int .i64 xd) ∧ wd.cell? ⟨G, i, none⟩ = some (.slice (some ⟨g i, 0, none⟩) (b.length + 1) (b.length + 1)) ∧ wd.cell? ⟨G, i + 1, none⟩ = some (.slice (some ⟨g (i + 1), 0, none⟩) (b.length + 1) (b.length + 1)) ∧ wd.cell? ⟨(g i), k, none⟩ = some (.int .i64 (tabI a b i k)) ∧ wd.cell? ⟨(g (i + 1)), k, none⟩ = some (.int .i64 (tabI a b (i + 1) k)) ∧ Hid (Below wd.heap.size wd wd ∧ bb < wd.heap.size ∧ G < wd.heap.size ∧ (g i) < wd.heap.size ∧ (g (i + 1)) < wd.heap.size)) := ⟨(u0), (u1'), (u2), (u6), (u7), (u8), (u9), ⟨Below.refl _ _, (m0'), (mg'), (mg0'), (mg1')⟩⟩
                  go_region_held3 (fun w' => w'.cell? ⟨bb, ob + i * 3, none⟩ = some (.int .i64 xk) ∧ w'.cell? ⟨bb, ob + i * 3 + 1, none⟩ = some (.string xt) ∧ w'.cell? ⟨bb, ob + i * 3 + 2, none⟩ = some (.int .i64 xd) ∧ w'.cell? ⟨G, i, none⟩ = some (.slice (some ⟨g i, 0, none⟩) (b.length + 1) (b.length + 1)) ∧ w'.cell? ⟨G, i + 1, none⟩ = some (.slice (some ⟨g (i + 1), 0, none⟩) (b.length + 1) (b.length + 1)) ∧ w'.cell? ⟨(g i), k, none⟩ = some (.int .i64 (tabI a b i k)) ∧ w'.cell? ⟨(g (i + 1)), k, none⟩ = some (.int .i64 (tabI a b (i + 1) k)) ∧ Hid (Below wd.heap.size wd w' ∧ bb < wd.heap.size ∧ G < wd.heap.size ∧ (g i) < wd.heap.size ∧ (g (i + 1)) < wd.heap.size))
                    (first | exact K0.out | exact KD.out _ K0.out | assumption | exact KP.out _ _ hb' (KD.out _ K0.out) | (refine KP.out _ _ hb' ?_; with_reducible_and_instances assumption) | (refine KD.out _ ?_; with_reducible_and_instances assumption))
                    (first
                      | (go_at_call 42; refine (alone_any xk xd xt _).mono ?_; rintro e w' ⟨rfl, hb'⟩))
                  rename_i hh
                  obtain ⟨s0, s1, s2, s3, s4, s5, s6, sH⟩ := hh
                  clear KP KD K0
                  obtain ⟨wb, rfl⟩ : ∃ wz : World, wz = w' := ⟨_, rfl⟩
                  have O3 := Lib.hid (own_below O2.out sH.out.1 (Nat.le_refl _))
                  have B3 := Lib.hid (B2.out.trans (sH.out.1.mono B2.out.size))
                  have hz3 := sH.out.1.size
                  have hzw3 := B3.out.size
                  clear sH s0 s1 s2 s3 s4 s5 s6
                  go_wp2_with (at_builtin; go_must (refine wpList_app1 rfl (.tmp 106) (.tmp 109) 41 43 rfl Try.underlying41 _ 2 16 edit_info rfl (by decide) w1.heap.size _ _ _ rfl (by exact World.ownsRow.alloc O3.out _) ⟨wb.heap.size, 0, none⟩ 1 (edC (⟨i, -1⟩)) rfl rfl (by exact cells_new _ _ _) (edC_one _) (by omega) (by decide) (by simp; omega) ?_); intro g9 cap w9 hown1 hg1 hbel1 hgr1)
                  have HB9 := Lib.hid (hbel1 _ _ (Nat.le_refl _) (by exact B3.out.alloc B3.out.size _))
                  have HO9 := Lib.hid (OwnE.snoc hown1)
                  clear hown1 hg1 hbel1 hgr1
                  go_wp2_with fail
                  refine ⟨⟨i + 1, k, L ++ [⟨i, -1⟩], n, by omega, by omega, by omega, by go_num, rfl, HO9.out, HB9.out, ?_, by (try simp only [List.length_append, List.length_singleton]); omega⟩, by simp [intOf]; try omega⟩
                  show L ++ [⟨i, -1⟩] ++ alnF a b n _ _ = _
                  rw [List.append_assoc, ← HTGT.out, HST.out]
                  rfl
                · have HST : Hid (alnS a b i k = (⟨-1, k⟩, i, k + 1)) := Lib.hid (HS1.out.trans (if_neg h1))
                  have b1 : (singleI ⟨xk, xt, xd⟩ + tabI a b (i + 1) k == tabI a b i k) = false := by simpa using h1
                  clear h1 HS1
                  go_wp2_with fail
                  have KP : Hid (∀ X X' : World, Below X.heap.size X X' → (X.cell? ⟨bb, ob + i * 3, none⟩ = some (.int .i64 xk) ∧ X.cell? ⟨bb, ob + i * 3 + 1, none⟩ = some (.string xt) ∧ X.cell? ⟨bb, ob + i * 3 + 2, none⟩ = some (.int .i64 xd) ∧ X.cell? ⟨G, i, none⟩ = some (.slice (some ⟨g i, 0, none⟩) (b.length + 1) (b.length + 1)) ∧ X.cell? ⟨G, i + 1, none⟩ = some (.slice (some ⟨g (i + 1), 0, none⟩) (b.length + 1) (b.length + 1)) ∧ X.cell? ⟨(g i), k, none⟩ = some (.int .i64 (tabI a b i k)) ∧ X.cell? ⟨(g (i + 1)), k, none⟩ = some (.int .i64 (tabI a b (i + 1) k)) ∧ Hid (Below wd.heap.size wd X ∧ bb < wd.heap.size ∧ G < wd.heap.size ∧ (g i) < wd.heap.size ∧ (g (i + 1)) < wd.heap.size)) → (X'.cell? ⟨bb, ob + i * 3, none⟩ = some (.int .i64 xk) ∧ X'.cell? ⟨bb, ob + i * 3 + 1, none⟩ = some (.string xt) ∧ X'.cell? ⟨bb, ob + i * 3 + 2, none⟩ = some (.int .i64 xd) ∧ X'.cell? ⟨G, i, none⟩ = some (.slice (some ⟨g i, 0, none⟩) (b.length + 1) (b.length + 1)) ∧ X'.cell? ⟨G, i + 1, none⟩ = some (.slice (some ⟨g (i + 1), 0, none⟩) (b.length + 1) (b.length + 1)) ∧ X'.cell? ⟨(g i), k, none⟩ = some (.int .i64 (tabI a b i k)) ∧ X'.cell? ⟨(g (i + 1)), k, none⟩ = some (.int .i64 (tabI a b (i + 1) k)) ∧ Hid (Below wd.heap.size wd X' ∧ bb < wd.heap.size ∧ G < wd.heap.size ∧ (g i) < wd.heap.size ∧ (g (i + 1)) < wd.heap.size))) := by
                    rintro X X' hb ⟨q0, q1, q2, q3, q4, q5, q6, hH⟩
                    obtain ⟨hB, l0, l1, l2, l3⟩ := hH.out
                    have hsz := hB.size
                    exact ⟨(hb.cell (p := ⟨bb, ob + i * 3, none⟩) (Nat.lt_of_lt_of_le l0 hsz)).trans q0, (hb.cell (p := ⟨bb, ob + i * 3 + 1, none⟩) (Nat.lt_of_lt_of_le l0 hsz)).trans q1, (hb.cell (p := ⟨bb, ob + i * 3 + 2, none⟩) (Nat.lt_of_lt_of_le l0 hsz)).trans q2, (hb.cell (p := ⟨G, i, none⟩) (Nat.lt_of_lt_of_le l1 hsz)).trans q3, (hb.cell (p := ⟨G, i + 1, none⟩) (Nat.lt_of_lt_of_le l1 hsz)).trans q4, (hb.cell (p := ⟨(g i), k, none⟩) (Nat.lt_of_lt_of_le l2 hsz)).trans q5, (hb.cell (p := ⟨(g (i + 1)), k, none⟩) (Nat.lt_of_lt_of_le l3 hsz)).trans q6, ⟨hB.trans (hb.mono hsz), l0, l1, l2, l3⟩⟩
                  have KD : Hid (∀ X : World, (X.cell? ⟨bb, ob + i * 3, none⟩ = some (.int .i64 xk) ∧ X.cell? ⟨bb, ob + i * 3 + 1, none⟩ = some (.string xt) ∧ X.cell? ⟨bb, ob + i * 3 + 2, none⟩ = some (.int .i64 xd) ∧ X.cell? ⟨G, i, none⟩ = some (.slice (some ⟨g i, 0, none⟩) (b.length + 1) (b.length + 1)) ∧ X.cell? ⟨G, i + 1, none⟩ = some (.slice (some ⟨g (i + 1), 0, none⟩) (b.length + 1) (b.length + 1)) ∧ X.cell? ⟨(g i), k, none⟩ = some (.int .i64 (tabI a b i k)) ∧ X.cell? ⟨(g (i + 1)), k, none⟩ = some (.int .i64 (tabI a b (i + 1) k)) ∧ Hid (Below wd.heap.size wd X ∧ bb < wd.heap.size ∧ G < wd.heap.size ∧ (g i) < wd.heap.size ∧ (g (i + 1)) < wd.heap.size)) → (X.drew.cell? ⟨bb, ob + i * 3, none⟩ = some (.int .i64 xk) ∧ X.drew.cell? ⟨bb, ob + i * 3 + 1, none⟩ = some (.string xt) ∧ X.drew.cell? ⟨bb, ob + i * 3 + 2, none⟩ = some (.int .i64 xd) ∧ X.drew.cell? ⟨G, i, none⟩ = some (.slice (some ⟨g i, 0, none⟩) (b.length + 1) (b.length + 1)) ∧ X.drew.cell? ⟨G, i + 1, none⟩ = some (.slice (some ⟨g (i + 1), 0, none⟩) (b.length + 1) (b.length + 1)) ∧ X.drew.cell? ⟨(g i), k, none⟩ = some (.int .i64 (tabI a b i k)) ∧ X.drew.cell? ⟨(g (i + 1)), k, none⟩ = some (.int .i64 (tabI a b (i + 1) k)) ∧ Hid (Below wd.heap.size wd X.drew ∧ bb < wd.heap.size ∧ G < wd.heap.size ∧ (g i) < wd.heap.size ∧ (g (i + 1)) < wd.heap.size))) := by
                    rintro X ⟨q0, q1, q2, q3, q4, q5, q6, hH⟩
                    exact ⟨q0, q1, q2, q3, q4, q5, q6, ⟨below_drewN hH.out.1 1, hH.out.2⟩⟩
                  have K0 : Hid (wd.cell? ⟨bb, ob + i * 3, none⟩ = some (.int .i64 xk) ∧ wd.cell? ⟨bb, ob + i * 3 + 1, none⟩ = some (.string xt) ∧ wd.cell? ⟨bb, ob + i * 3 + 2, none⟩ = some (.int .i64 xd) ∧ wd.cell? ⟨G, i, none⟩ = some (.slice (some ⟨g i, 0, none⟩) (b.length + 1) (b.length + 1)) ∧ wd.cell? ⟨G, i + 1, none⟩ = some (.slice (some ⟨g (i + 1), 0, none⟩) (b.length + 1) (b.length + 1)) ∧ wd.cell? ⟨(g i), k, none⟩ = some (.int .i64 (tabI a b i k)) ∧ wd.cell? ⟨(g (i + 1)), k, none⟩ = some (.int .i64 (tabI a b (i + 1) k)) ∧ Hid (Below wd.heap.size wd wd ∧ bb < wd.heap.size ∧ G < wd.heap.size ∧ (g i) < wd.heap.size ∧ (g (i + 1)) < wd.heap.size)) := ⟨(u0), (u1'), (u2), (u6), (u7), (u8), (u9), ⟨Below.refl _ _, (m0'), (mg'), (mg0'), (mg1')⟩⟩
                  go_region_held3 (fun w' => w'.cell? ⟨bb, ob + i * 3, none⟩ = some (.int .i64 xk) ∧ w'.cell? ⟨bb, ob + i * 3 + 1, none⟩ = some (.string xt) ∧ w'.cell? ⟨bb, ob + i * 3 + 2, none⟩ = some (.int .i64 xd) ∧ w'.cell? ⟨G, i, none⟩ = some (.slice (some ⟨g i, 0, none⟩) (b.length + 1) (b.length + 1)) ∧ w'.cell? ⟨G, i + 1, none⟩ = some (.slice (some ⟨g (i + 1), 0, none⟩) (b.length + 1) (b.length + 1)) ∧ w'.cell? ⟨(g i), k, none⟩ = some (.int .i64 (tabI a b i k)) ∧ w'.cell? ⟨(g (i + 1)), k, none⟩ = some (.int .i64 (tabI a b (i + 1) k)) ∧ Hid (Below wd.heap.size wd w' ∧ bb < wd.heap.size ∧ G < wd.heap.size ∧ (g i) < wd.heap.size ∧ (g (i + 1)) < wd.heap.size))
                    (first | exact K0.out | exact KD.out _ K0.out | assumption | exact KP.out _ _ hb' (KD.out _ K0.out) | (refine KP.out _ _ hb' ?_; with_reducible_and_instances assumption) | (refine KD.out _ ?_; with_reducible_and_instances assumption))
                    (first
                      | (go_at_call 42; refine (alone_any xk xd xt _).mono ?_; rintro e w' ⟨rfl, hb'⟩))
                  rename_i hh
                  obtain ⟨s0, s1, s2, s3, s4, s5, s6, sH⟩ := hh
                  clear KP KD K0
                  obtain ⟨wb, rfl⟩ : ∃ wz : World, wz = w' := ⟨_, rfl⟩
                  have O3 := Lib.hid (own_below O2.out sH.out.1 (Nat.le_refl _))
                  have B3 := Lib.hid (B2.out.trans (sH.out.1.mono B2.out.size))
                  have hz3 := sH.out.1.size
                  have hzw3 := B3.out.size
                  clear sH s0 s1 s2 s3 s4 s5 s6
                  go_wp2_with (at_builtin; go_must (refine wpList_app1 rfl (.tmp 113) (.tmp 116) 41 43 rfl Try.underlying41 _ 2 16 edit_info rfl (by decide) w1.heap.size _ _ _ rfl (by exact World.ownsRow.alloc O3.out _) ⟨wb.heap.size, 0, none⟩ 1 (edC (⟨-1, k⟩)) rfl rfl (by exact cells_new _ _ _) (edC_one _) (by omega) (by decide) (by simp; omega) ?_); intro g9 cap w9 hown1 hg1 hbel1 hgr1)
                  have HB9 := Lib.hid (hbel1 _ _ (Nat.le_refl _) (by exact B3.out.alloc B3.out.size _))
                  have HO9 := Lib.hid (OwnE.snoc hown1)
                  clear hown1 hg1 hbel1 hgr1
                  go_wp2_with fail
                  refine ⟨⟨i, k + 1, L ++ [⟨-1, k⟩], n, by omega, by omega, by omega, rfl, by go_num, HO9.out, HB9.out, ?_, by (try simp only [List.length_append, List.length_singleton]); omega⟩, by simp [intOf]; try omega⟩
                  show L ++ [⟨-1, k⟩] ++ alnF a b n _ _ = _
                  rw [List.append_assoc, ← HTGT.out, HST.out]
                  rfl
            · have HS1 : Hid (alnS a b i k = if singleI ⟨xk, xt, xd⟩ + tabI a b (i + 1) k = tabI a b i k then (⟨i, -1⟩, i + 1, k) else (⟨-1, k⟩, i, k + 1)) := Lib.hid (HS0.out.trans (if_neg fun e => hc e.1))
              have hc' : costOk ⟨xk, xt, xd⟩ ⟨yk, yt, yd⟩ = false := by simpa using hc
              clear hc HS0
              go_wp2_with fail
              have KP : Hid (∀ X X' : World, Below X.heap.size X X' → (X.cell? ⟨bb, ob + i * 3, none⟩ = some (.int .i64 xk) ∧ X.cell? ⟨bb, ob + i * 3 + 1, none⟩ = some (.string xt) ∧ X.cell? ⟨bb, ob + i * 3 + 2, none⟩ = some (.int .i64 xd) ∧ X.cell? ⟨b2, o2 + k * 3, none⟩ = some (.int .i64 yk) ∧ X.cell? ⟨b2, o2 + k * 3 + 1, none⟩ = some (.string yt) ∧ X.cell? ⟨b2, o2 + k * 3 + 2, none⟩ = some (.int .i64 yd) ∧ X.cell? ⟨G, i, none⟩ = some (.slice (some ⟨g i, 0, none⟩) (b.length + 1) (b.length + 1)) ∧ X.cell? ⟨G, i + 1, none⟩ = some (.slice (some ⟨g (i + 1), 0, none⟩) (b.length + 1) (b.length + 1)) ∧ X.cell? ⟨(g i), k, none⟩ = some (.int .i64 (tabI a b i k)) ∧ X.cell? ⟨(g (i + 1)), k, none⟩ = some (.int .i64 (tabI a b (i + 1) k)) ∧ X.cell? ⟨(g (i + 1)), k + 1, none⟩ = some (.int .i64 (tabI a b (i + 1) (k + 1))) ∧ Hid (Below wr.heap.size wr X ∧ bb < wr.heap.size ∧ b2 < wr.heap.size ∧ G < wr.heap.size ∧ (g i) < wr.heap.size ∧ (g (i + 1)) < wr.heap.size)) → (X'.cell? ⟨bb, ob + i * 3, none⟩ = some (.int .i64 xk) ∧ X'.cell? ⟨bb, ob + i * 3 + 1, none⟩ = some (.string xt) ∧ X'.cell? ⟨bb, ob + i * 3 + 2, none⟩ = some (.int .i64 xd) ∧ X'.cell? ⟨b2, o2 + k * 3, none⟩ = some (.int .i64 yk) ∧ X'.cell? ⟨b2, o2 + k * 3 + 1, none⟩ = some (.string yt) ∧ X'.cell? ⟨b2, o2 + k * 3 + 2, none⟩ = some (.int .i64 yd) ∧ X'.cell? ⟨G, i, none⟩ = some (.slice (some ⟨g i, 0, none⟩) (b.length + 1) (b.length + 1)) ∧ X'.cell? ⟨G, i + 1, none⟩ = some (.slice (some ⟨g (i + 1), 0, none⟩) (b.length + 1) (b.length + 1)) ∧ X'.cell? ⟨(g i), k, none⟩ = some (.int .i64 (tabI a b i k)) ∧ X'.cell? ⟨(g (i + 1)), k, none⟩ = some (.int .i64 (tabI a b (i + 1) k)) ∧ X'.cell? ⟨(g (i + 1)), k + 1, none⟩ = some (.int .i64 (tabI a b (i + 1) (k + 1))) ∧ Hid (Below wr.heap.size wr X' ∧ bb < wr.heap.size ∧ b2 < wr.heap.size ∧ G < wr.heap.size ∧ (g i) < wr.heap.size ∧ (g (i + 1)) < wr.heap.size))) := by
                rintro X X' hb ⟨q0, q1, q2, q3, q4, q5, q6, q7, q8, q9, q10, hH⟩
                obtain ⟨hB, l0, l1, l2, l3, l4⟩ := hH.out
                have hsz := hB.size
                exact ⟨(hb.cell (p := ⟨bb, ob + i * 3, none⟩) (Nat.lt_of_lt_of_le l0 hsz)).trans q0, (hb.cell (p := ⟨bb, ob + i * 3 + 1, none⟩) (Nat.lt_of_lt_of_le l0 hsz)).trans q1, (hb.cell (p := ⟨bb, ob + i * 3 + 2, none⟩) (Nat.lt_of_lt_of_le l0 hsz)).trans q2, (hb.cell (p := ⟨b2, o2 + k * 3, none⟩) (Nat.lt_of_lt_of_le l1 hsz)).trans q3, (hb.cell (p := ⟨b2, o2 + k * 3 + 1, none⟩) (Nat.lt_of_lt_of_le l1 hsz)).trans q4, (hb.cell (p := ⟨b2, o2 + k * 3 + 2, none⟩) (Nat.lt_of_lt_of_le l1 hsz)).trans q5, (hb.cell (p := ⟨G, i, none⟩) (Nat.lt_of_lt_of_le l2 hsz)).trans q6, (hb.cell (p := ⟨G, i + 1, none⟩) (Nat.lt_of_lt_of_le l2 hsz)).trans q7, (hb.cell (p := ⟨(g i), k, none⟩) (Nat.lt_of_lt_of_le l3 hsz)).trans q8, (hb.cell (p := ⟨(g (i + 1)), k, none⟩) (Nat.lt_of_lt_of_le l4 hsz)).trans q9, (hb.cell (p := ⟨(g (i + 1)), k + 1, none⟩) (Nat.lt_of_lt_of_le l4 hsz)).trans q10, ⟨hB.trans (hb.mono hsz), l0, l1, l2, l3, l4⟩⟩
              have KD : Hid (∀ X : World, (X.cell? ⟨bb, ob + i * 3, none⟩ = some (.int .i64 xk) ∧ X.cell? ⟨bb, ob + i * 3 + 1, none⟩ = some (.string xt) ∧ X.cell? ⟨bb, ob + i * 3 + 2, none⟩ = some (.int .i64 xd) ∧ X.cell? ⟨b2, o2 + k * 3, none⟩ = some (.int .i64 yk) ∧ X.cell? ⟨b2, o2 + k * 3 + 1, none⟩ = some (.string yt) ∧ X.cell? ⟨b2, o2 + k * 3 + 2, none⟩ = some (.int .i64 yd) ∧ X.cell? ⟨G, i, none⟩ = some (.slice (some ⟨g i, 0, none⟩) (b.length + 1) (b.length + 1)) ∧ X.cell? ⟨G, i + 1, none⟩ = some (.slice (some ⟨g (i + 1), 0, none⟩) (b.length + 1) (b.length + 1)) ∧ X.cell? ⟨(g i), k, none⟩ = some (.int .i64 (tabI a b i k)) ∧ X.cell? ⟨(g (i + 1)), k, none⟩ = some (.int .i64 (tabI a b (i + 1) k)) ∧ X.cell? ⟨(g (i + 1)), k + 1, none⟩ = some (.int .i64 (tabI a b (i + 1) (k + 1))) ∧ Hid (Below wr.heap.size wr X ∧ bb < wr.heap.size ∧ b2 < wr.heap.size ∧ G < wr.heap.size ∧ (g i) < wr.heap.size ∧ (g (i + 1)) < wr.heap.size)) → (X.drew.cell? ⟨bb, ob + i * 3, none⟩ = some (.int .i64 xk) ∧ X.drew.cell? ⟨bb, ob + i * 3 + 1, none⟩ = some (.string xt) ∧ X.drew.cell? ⟨bb, ob + i * 3 + 2, none⟩ = some (.int .i64 xd) ∧ X.drew.cell? ⟨b2, o2 + k * 3, none⟩ = some (.int .i64 yk) ∧ X.drew.cell? ⟨b2, o2 + k * 3 + 1, none⟩ = some (.string yt) ∧ X.drew.cell? ⟨b2, o2 + k * 3 + 2, none⟩ = some (.int .i64 yd) ∧ X.drew.cell? ⟨G, i, none⟩ = some (.slice (some ⟨g i, 0, none⟩) (b.length + 1) (b.length + 1)) ∧ X.drew.cell? ⟨G, i + 1, none⟩ = some (.slice (some ⟨g (i + 1), 0, none⟩) (b.length + 1) (b.length + 1)) ∧ X.drew.cell? ⟨(g i), k, none⟩ = some (.int .i64 (tabI a b i k)) ∧ X.drew.cell? ⟨(g (i + 1)), k, none⟩ = some (.int .i64 (tabI a b (i + 1) k)) ∧ X.drew.cell? ⟨(g (i + 1)), k + 1, none⟩ = some (.int .i64 (tabI a b (i + 1) (k + 1))) ∧ Hid (Below wr.heap.size wr X.drew ∧ bb < wr.heap.size ∧ b2 < wr.heap.size ∧ G < wr.heap.size ∧ (g i) < wr.heap.size ∧ (g (i + 1)) < wr.heap.size))) := by
                rintro X ⟨q0, q1, q2, q3, q4, q5, q6, q7, q8, q9, q10, hH⟩
                exact ⟨q0, q1, q2, q3, q4, q5, q6, q7, q8, q9, q10, ⟨below_drewN hH.out.1 1, hH.out.2⟩⟩
              have K0 : Hid (wr.cell? ⟨bb, ob + i * 3, none⟩ = some (.int .i64 xk) ∧ wr.cell? ⟨bb, ob + i * 3 + 1, none⟩ = some (.string xt) ∧ wr.cell? ⟨bb, ob + i * 3 + 2, none⟩ = some (.int .i64 xd) ∧ wr.cell? ⟨b2, o2 + k * 3, none⟩ = some (.int .i64 yk) ∧ wr.cell? ⟨b2, o2 + k * 3 + 1, none⟩ = some (.string yt) ∧ wr.cell? ⟨b2, o2 + k * 3 + 2, none⟩ = some (.int .i64 yd) ∧ wr.cell? ⟨G, i, none⟩ = some (.slice (some ⟨g i, 0, none⟩) (b.length + 1) (b.length + 1)) ∧ wr.cell? ⟨G, i + 1, none⟩ = some (.slice (some ⟨g (i + 1), 0, none⟩) (b.length + 1) (b.length + 1)) ∧ wr.cell? ⟨(g i), k, none⟩ = some (.int .i64 (tabI a b i k)) ∧ wr.cell? ⟨(g (i + 1)), k, none⟩ = some (.int .i64 (tabI a b (i + 1) k)) ∧ wr.cell? ⟨(g (i + 1)), k + 1, none⟩ = some (.int .i64 (tabI a b (i + 1) (k + 1))) ∧ Hid (Below wr.heap.size wr wr ∧ bb < wr.heap.size ∧ b2 < wr.heap.size ∧ G < wr.heap.size ∧ (g i) < wr.heap.size ∧ (g (i + 1)) < wr.heap.size)) := ⟨(q1), (q2), (q3), (p1), (p2), (p3), (o0), (o1), (c0), (c1), (c2), ⟨Below.refl _ _, (hl0), (hl2), (hlg), (hl0g), (hl1g)⟩⟩
              go_region_held3 (fun w' => w'.cell? ⟨bb, ob + i * 3, none⟩ = some (.int .i64 xk) ∧ w'.cell? ⟨bb, ob + i * 3 + 1, none⟩ = some (.string xt) ∧ w'.cell? ⟨bb, ob + i * 3 + 2, none⟩ = some (.int .i64 xd) ∧ w'.cell? ⟨b2, o2 + k * 3, none⟩ = some (.int .i64 yk) ∧ w'.cell? ⟨b2, o2 + k * 3 + 1, none⟩ = some (.string yt) ∧ w'.cell? ⟨b2, o2 + k * 3 + 2, none⟩ = some (.int .i64 yd) ∧ w'.cell? ⟨G, i, none⟩ = some (.slice (some ⟨g i, 0, none⟩) (b.length + 1) (b.length + 1)) ∧ w'.cell? ⟨G, i + 1, none⟩ = some (.slice (some ⟨g (i + 1), 0, none⟩) (b.length + 1) (b.length + 1)) ∧ w'.cell? ⟨(g i), k, none⟩ = some (.int .i64 (tabI a b i k)) ∧ w'.cell? ⟨(g (i + 1)), k, none⟩ = some (.int .i64 (tabI a b (i + 1) k)) ∧ w'.cell? ⟨(g (i + 1)), k + 1, none⟩ = some (.int .i64 (tabI a b (i + 1) (k + 1))) ∧ Hid (Below wr.heap.size wr w' ∧ bb < wr.heap.size ∧ b2 < wr.heap.size ∧ G < wr.heap.size ∧ (g i) < wr.heap.size ∧ (g (i + 1)) < wr.heap.size))
                (first | exact K0.out | exact KD.out _ K0.out | assumption | exact KP.out _ _ hb' (KD.out _ K0.out) | (refine KP.out _ _ hb' ?_; with_reducible_and_instances assumption) | (refine KD.out _ ?_; with_reducible_and_instances assumption))
                (first
                  | (go_at_call 16; refine (rcost_any xk xd yk yd xt yt _ hxt hyt).mono ?_; rintro e w' ⟨rfl, hb'⟩))
              rename_i hh
              obtain ⟨t0, t1, t2, t3, t4, t5, t6, t7, t8, t9, t10, tH⟩ := hh
              clear KP KD K0
              obtain ⟨wa, rfl⟩ : ∃ wz : World, wz = w' := ⟨_, rfl⟩
              have O1 := Lib.hid (own_below HO.out tH.out.1 (Nat.le_refl _))
              have B1 := Lib.hid (HBR.out.trans (tH.out.1.mono HBR.out.size))
              have hz1 := tH.out.1.size
              have hzw1 := B1.out.size
              clear tH q1 q2 q3 p1 p2 p3 o0 o1 c0 c1 c2 t3 t4 t5
              have m0 : bb < wa.heap.size := by omega
              have mg : G < wa.heap.size := by omega
              have mg0 : g i < wa.heap.size := by omega
              have mg1 : g (i + 1) < wa.heap.size := by omega
              clear hl0 hl2 hlg hl0g hl1g
              go_wp2_with fail
              go_quiet (fail)
              have O2 : Hid (OwnE 43 edC 2 (wa.drewN nq) w1.heap.size (.slice Ao L.length co) L) := O1
              have B2 : Hid (Below w1.heap.size w1 (wa.drewN nq)) := Lib.hid (below_drewN B1.out nq)
              have u0 : (wa.drewN nq).cell? ⟨bb, ob + i * 3, none⟩ = _ := t0
              have u1' : (wa.drewN nq).cell? ⟨bb, ob + i * 3 + 1, none⟩ = _ := t1
              have u2 : (wa.drewN nq).cell? ⟨bb, ob + i * 3 + 2, none⟩ = _ := t2
              have u6 : (wa.drewN nq).cell? ⟨G, i, none⟩ = _ := t6
              have u7 : (wa.drewN nq).cell? ⟨G, i + 1, none⟩ = _ := t7
              have u8 : (wa.drewN nq).cell? ⟨g i, k, none⟩ = _ := t8
              have u9 : (wa.drewN nq).cell? ⟨g (i + 1), k, none⟩ = _ := t9
              have m0' : bb < (wa.drewN nq).heap.size := m0
              have mg' : G < (wa.drewN nq).heap.size := mg
              have mg0' : g i < (wa.drewN nq).heap.size := mg0
              have mg1' : g (i + 1) < (wa.drewN nq).heap.size := mg1
              have hzd : w1.heap.size ≤ (wa.drewN nq).heap.size := hzw1
              have hzd2 : wr.heap.size ≤ (wa.drewN nq).heap.size := hz1
              generalize wa.drewN nq = wd at O2 B2 u0 u1' u2 u6 u7 u8 u9 m0' mg' mg0' mg1' hzd hzd2
              clear O1 B1 t0 t1 t2 t6 t7 t8 t9 t10 m0 mg mg0 mg1
              by_cases h1 : singleI ⟨xk, xt, xd⟩ + tabI a b (i + 1) k = tabI a b i k
              · have HST : Hid (alnS a b i k = (⟨i, -1⟩, i + 1, k)) := Lib.hid (HS1.out.trans (if_pos h1))
                have b1 : (singleI ⟨xk, xt, xd⟩ + tabI a b (i + 1) k == tabI a b i k) = true := by simpa using h1
                clear h1 HS1
                go_wp2_with fail
                have KP : Hid (∀ X X' : World, Below X.heap.size X X' → (X.cell? ⟨bb, ob + i * 3, none⟩ = some (.int .i64 xk) ∧ X.cell? ⟨bb, ob + i * 3 + 1, none⟩ = some (.string xt) ∧ X.cell? ⟨bb, ob + i * 3 + 2, none⟩ = some (.int .i64 xd) ∧ X.cell? ⟨G, i, none⟩ = some (.slice (some ⟨g i, 0, none⟩) (b.length + 1) (b.length + 1)) ∧ X.cell? ⟨G, i + 1, none⟩ = some (.slice (some ⟨g (i + 1), 0, none⟩) (b.length + 1) (b.length + 1)) ∧ X.cell? ⟨(g i), k, none⟩ = some (.int .i64 (tabI a b i k)) ∧ X.cell? ⟨(g (i + 1)), k, none⟩ = some (.int .i64 (tabI a b (i + 1) k)) ∧ Hid (Below wd.heap.size wd X ∧ bb < wd.heap.size ∧ G < wd.heap.size ∧ (g i) < wd.heap.size ∧ (g (i + 1)) < wd.heap.size)) → (X'.cell? ⟨bb, ob + i * 3, none⟩ = some (.int .i64 xk) ∧ X'.cell? ⟨bb, ob + i * 3 + 1, none⟩ = some (.string xt) ∧ X'.cell? ⟨bb, ob + i * 3 + 2, none⟩ = some (.int .i64 xd) ∧ X'.cell? ⟨G, i, none⟩ = some (.slice (some ⟨g i, 0, none⟩) (b.length + 1) (b.length + 1)) ∧ X'.cell? ⟨G, i + 1, none⟩ = some (.slice (some ⟨g (i + 1), 0, none⟩) (b.length + 1) (b.length + 1)) ∧ X'.cell? ⟨(g i), k, none⟩ = some (.int .i64 (tabI a b i k)) ∧ X'.cell? ⟨(g (i + 1)), k, none⟩ = some (.int .i64 (tabI a b (i + 1) k)) ∧ Hid (Below wd.heap.size wd X' ∧ bb < wd.heap.size ∧ G < wd.heap.size ∧ (g i) < wd.heap.size ∧ (g (i + 1)) < wd.heap.size))) := by
                  rintro X X' hb ⟨q0, q1, q2, q3, q4, q5, q6, hH⟩
                  obtain ⟨hB, l0, l1, l2, l3⟩ := hH.out
                  have hsz := hB.size
                  exact ⟨(hb.cell (p := ⟨bb, ob + i * 3, none⟩) (Nat.lt_of_lt_of_le l0 hsz)).trans q0, (hb.cell (p := ⟨bb, ob + i * 3 + 1, none⟩) (Nat.lt_of_lt_of_le l0 hsz)).trans q1, (hb.cell (p := ⟨bb, ob + i * 3 + 2, none⟩) (Nat.lt_of_lt_of_le l0 hsz)).trans q2, (hb.cell (p := ⟨G, i, none⟩) (Nat.lt_of_lt_of_le l1 hsz)).trans q3, (hb.cell (p := ⟨G, i + 1, none⟩) (Nat.lt_of_lt_of_le l1 hsz)).trans q4, (hb.cell (p := ⟨(g i), k, none⟩) (Nat.lt_of_lt_of_le l2 hsz)).trans q5, (hb.cell (p := ⟨(g (i + 1)), k, none⟩) (Nat.lt_of_lt_of_le l3 hsz)).trans q6, ⟨hB.trans (hb.mono hsz), l0, l1, l2, l3⟩⟩
                have KD : Hid (∀ X : World, (X.cell? ⟨bb, ob + i * 3, none⟩ = some (.int .i64 xk) ∧ X.cell? ⟨bb, ob + i * 3 + 1, none⟩ = some (.string xt) ∧ X.cell? ⟨bb, ob + i * 3 + 2, none⟩ = some (.int .i64 xd) ∧ X.cell? ⟨G, i, none⟩ = some (.slice (some ⟨g i, 0, none⟩) (b.length + 1) (b.length + 1)) ∧ X.cell? ⟨G, i + 1, none⟩ = some (.slice (some ⟨g (i + 1), 0, none⟩) (b.length + 1) (b.length + 1)) ∧ X.cell? ⟨(g i), k, none⟩ = some (.int .i64 (tabI a b i k)) ∧ X.cell? ⟨(g (i + 1)), k, none⟩ = some (.int .i64 (tabI a b (i + 1) k)) ∧ Hid (Below wd.heap.size wd X ∧ bb < wd.heap.size ∧ G < wd.heap.size ∧ (g i) < wd.heap.size ∧ (g (i + 1)) < wd.heap.size)) → (X.drew.cell? ⟨bb, ob + i * 3, none⟩ = some (.int .i64 xk) ∧ X.drew.cell? ⟨bb, ob + i * 3 + 1, none⟩ = some (.string xt) ∧ X.drew.cell? ⟨bb, ob + i * 3 + 2, none⟩ = some (.int .i64 xd) ∧ X.drew.cell? ⟨G, i, none⟩ = some (.slice (some ⟨g i, 0, none⟩) (b.length + 1) (b.length + 1)) ∧ X.drew.cell? ⟨G, i + 1, none⟩ = some (.slice (some ⟨g (i + 1), 0, none⟩) (b.length + 1) (b.length + 1)) ∧ X.drew.cell? ⟨(g i), k, none⟩ = some (.int .i64 (tabI a b i k)) ∧ X.drew.cell? ⟨(g (i + 1)), k, none⟩ = some (.int .i64 (tabI a b (i + 1) k)) ∧ Hid (Below wd.heap.size wd X.drew ∧ bb < wd.heap.size ∧ G < wd.heap.size ∧ (g i) < wd.heap.size ∧ (g (i + 1)) < wd.heap.size))) := by
                  rintro X ⟨q0, q1, q2, q3, q4, q5, q6, hH⟩
                  exact ⟨q0, q1, q2, q3, q4, q5, q6, ⟨below_drewN hH.out.1 1, hH.out.2⟩⟩
                have K0 : Hid (wd.cell? ⟨bb, ob + i * 3, none⟩ = some (.int .i64 xk) ∧ wd.cell? ⟨bb, ob + i * 3 + 1, none⟩ = some (.string xt) ∧ wd.cell? ⟨bb, ob + i * 3 + 2, none⟩ = some (.int .i64 xd) ∧ wd.cell? ⟨G, i, none⟩ = some (.slice (some ⟨g i, 0, none⟩) (b.length + 1) (b.length + 1)) ∧ wd.cell? ⟨G, i + 1, none⟩ = some (.slice (some ⟨g (i + 1), 0, none⟩) (b.length + 1) (b.length + 1)) ∧ wd.cell? ⟨(g i), k, none⟩ = some (.int .i64 (tabI a b i k)) ∧ wd.cell? ⟨(g (i + 1)), k, none⟩ = some (.int .i64 (tabI a b (i + 1) k)) ∧ Hid (Below wd.heap.size wd wd ∧ bb < wd.heap.size ∧ G < wd.heap.size ∧ (g i) < wd.heap.size ∧ (g (i + 1)) < wd.heap.size)) := ⟨(u0), (u1'), (u2), (u6), (u7), (u8), (u9), ⟨Below.refl _ _, (m0'), (mg'), (mg0'), (mg1')⟩⟩
                go_region_held3 (fun w' => w'.cell? ⟨bb, ob + i * 3, none⟩ = some (.int .i64 xk) ∧ w'.cell? ⟨bb, ob + i * 3 + 1, none⟩ = some (.string xt) ∧ w'.cell? ⟨bb, ob + i * 3 + 2, none⟩ = some (.int .i64 xd) ∧ w'.cell? ⟨G, i, none⟩ = some (.slice (some ⟨g i, 0, none⟩) (b.length + 1) (b.length + 1)) ∧ w'.cell? ⟨G, i + 1, none⟩ = some (.slice (some ⟨g (i + 1), 0, none⟩) (b.length + 1) (b.length + 1)) ∧ w'.cell? ⟨(g i), k, none⟩ = some (.int .i64 (tabI a b i k)) ∧ w'.cell? ⟨(g (i + 1)), k, none⟩ = some (.int .i64 (tabI a b (i + 1) k)) ∧ Hid (Below wd.heap.size wd w' ∧ bb < wd.heap.size ∧ G < wd.heap.size ∧ (g i) < wd.heap.size ∧ (g (i + 1)) < wd.heap.size))
                  (first | exact K0.out | exact KD.out _ K0.out | assumption | exact KP.out _ _ hb' (KD.out _ K0.out) | (refine KP.out _ _ hb' ?_; with_reducible_and_instances assumption) | (refine KD.out _ ?_; with_reducible_and_instances assumption))
                  (first
                    | (go_at_call 42; refine (alone_any xk xd xt _).mono ?_; rintro e w' ⟨rfl, hb'⟩))
                rename_i hh
                obtain ⟨s0, s1, s2, s3, s4, s5, s6, sH⟩ := hh
                clear KP KD K0
                obtain ⟨wb, rfl⟩ : ∃ wz : World, wz = w' := ⟨_, rfl⟩
                have O3 := Lib.hid (own_below O2.out sH.out.1 (Nat.le_refl _))
                have B3 := Lib.hid (B2.out.trans (sH.out.1.mono B2.out.size))
                have hz3 := sH.out.1.size
                have hzw3 := B3.out.size
                clear sH s0 s1 s2 s3 s4 s5 s6
                go_wp2_with (at_builtin; go_must (refine wpList_app1 rfl (.tmp 106) (.tmp 109) 41 43 rfl Try.underlying41 _ 2 16 edit_info rfl (by decide) w1.heap.size _ _ _ rfl (by exact World.ownsRow.alloc O3.out _) ⟨wb.heap.size, 0, none⟩ 1 (edC (⟨i, -1⟩)) rfl rfl (by exact cells_new _ _ _) (edC_one _) (by omega) (by decide) (by simp; omega) ?_); intro g9 cap w9 hown1 hg1 hbel1 hgr1)
                have HB9 := Lib.hid (hbel1 _ _ (Nat.le_refl _) (by exact B3.out.alloc B3.out.size _))
                have HO9 := Lib.hid (OwnE.snoc hown1)
                clear hown1 hg1 hbel1 hgr1
                go_wp2_with fail
                refine ⟨⟨i + 1, k, L ++ [⟨i, -1⟩], n, by omega, by omega, by omega, by go_num, rfl, HO9.out, HB9.out, ?_, by (try simp only [List.length_append, List.length_singleton]); omega⟩, by simp [intOf]; try omega⟩
                show L ++ [⟨i, -1⟩] ++ alnF a b n _ _ = _
                rw [List.append_assoc, ← HTGT.out, HST.out]
                rfl
              · have HST : Hid (alnS a b i k = (⟨-1, k⟩, i, k + 1)) := Lib.hid (HS1.out.trans (if_neg h1))
                have b1 : (singleI ⟨xk, xt, xd⟩ + tabI a b (i + 1) k == tabI a b i k) = false := by simpa using h1
                clear h1 HS1
                go_wp2_with fail
                have KP : Hid (∀ X X' : World, Below X.heap.size X X' → (X.cell? ⟨bb, ob + i * 3, none⟩ = some (.int .i64 xk) ∧ X.cell? ⟨bb, ob + i * 3 + 1, none⟩ = some (.string xt) ∧ X.cell? ⟨bb, ob + i * 3 + 2, none⟩ = some (.int .i64 xd) ∧ X.cell? ⟨G, i, none⟩ = some (.slice (some ⟨g i, 0, none⟩) (b.length + 1) (b.length + 1)) ∧ X.cell? ⟨G, i + 1, none⟩ = some (.slice (some ⟨g (i + 1), 0, none⟩) (b.length + 1) (b.length + 1)) ∧ X.cell? ⟨(g i), k, none⟩ = some (.int .i64 (tabI a b i k)) ∧ X.cell? ⟨(g (i + 1)), k, none⟩ = some (.int .i64 (tabI a b (i + 1) k)) ∧ Hid (Below wd.heap.size wd X ∧ bb < wd.heap.size ∧ G < wd.heap.size ∧ (g i) < wd.heap.size ∧ (g (i + 1)) < wd.heap.size)) → (X'.cell? ⟨bb, ob + i * 3, none⟩ = some (.int .i64 xk) ∧ X'.cell? ⟨bb, ob + i * 3 + 1, none⟩ = some (.string xt) ∧ X'.cell? ⟨bb, ob + i * 3 + 2, none⟩ = some (.int .i64 xd) ∧ X'.cell? ⟨G, i, none⟩ = some (.slice (some ⟨g i, 0, none⟩) (b.length + 1) (b.length + 1)) ∧ X'.cell? ⟨G, i + 1, none⟩ = some (.slice (some ⟨g (i + 1), 0, none⟩) (b.length + 1) (b.length + 1)) ∧ X'.cell? ⟨(g i), k, none⟩ = some (.int .i64 (tabI a b i k)) ∧ X'.cell? ⟨(g (i + 1)), k, none⟩ = some (.int .i64 (tabI a b (i + 1) k)) ∧ Hid (Below wd.heap.size wd X' ∧ bb < wd.heap.size ∧ G < wd.heap.size ∧ (g i) < wd.heap.size ∧ (g (i + 1)) < wd.heap.size))) := by
                  rintro X X' hb ⟨q0, q1, q2, q3, q4, q5, q6, hH⟩
                  obtain ⟨hB, l0, l1, l2, l3⟩ := hH.out
                  have hsz := hB.size
                  exact ⟨(hb.cell (p := ⟨bb, ob + i * 3, none⟩) (Nat.lt_of_lt_of_le l0 hsz)).trans q0, (hb.cell (p := ⟨bb, ob + i * 3 + 1, none⟩) (Nat.lt_of_lt_of_le l0 hsz)).trans q1, (hb.cell (p := ⟨bb, ob + i * 3 + 2, none⟩) (Nat.lt_of_lt_of_le l0 hsz)).trans q2, (hb.cell (p := ⟨G, i, none⟩) (Nat.lt_of_lt_of_le l1 hsz)).trans q3, (hb.cell (p := ⟨G, i + 1, none⟩) (Nat.lt_of_lt_of_le l1 hsz)).trans q4, (hb.cell (p := ⟨(g i), k, none⟩) (Nat.lt_of_lt_of_le l2 hsz)).trans q5, (hb.cell (p := ⟨(g (i + 1)), k, none⟩) (Nat.lt_of_lt_of_le l3 hsz)).trans q6, ⟨hB.trans (hb.mono hsz), l0, l1, l2, l3⟩⟩
                have KD : Hid (∀ X : World, (X.cell? ⟨bb, ob + i * 3, none⟩ = some (.int .i64 xk) ∧ X.cell? ⟨bb, ob + i * 3 + 1, none⟩ = some (.string xt) ∧ X.cell? ⟨bb, ob + i * 3 + 2, none⟩ = some (.int .i64 xd) ∧ X.cell? ⟨G, i, none⟩ = some (.slice (some ⟨g i, 0, none⟩) (b.length + 1) (b.length + 1)) ∧ X.cell? ⟨G, i + 1, none⟩ = some (.slice (some ⟨g (i + 1), 0, none⟩) (b.length + 1) (b.length + 1)) ∧ X.cell? ⟨(g i), k, none⟩ = some (.int .i64 (tabI a b i k)) ∧ X.cell? ⟨(g (i + 1)), k, none⟩ = some (.int .i64 (tabI a b (i + 1) k)) ∧ Hid (Below wd.heap.size wd X ∧ bb < wd.heap.size ∧ G < wd.heap.size ∧ (g i) < wd.heap.size ∧ (g (i + 1)) < wd.heap.size)) → (X.drew.cell? ⟨bb, ob + i * 3, none⟩ = some (.int .i64 xk) ∧ X.drew.cell? ⟨bb, ob + i * 3 + 1, none⟩ = some (.string xt) ∧ X.drew.cell? ⟨bb, ob + i * 3 + 2, none⟩ = some (.int .i64 xd) ∧ X.drew.cell? ⟨G, i, none⟩ = some (.slice (some ⟨g i, 0, none⟩) (b.length + 1) (b.length + 1)) ∧ X.drew.cell? ⟨G, i + 1, none⟩ = some (.slice (some ⟨g (i + 1), 0, none⟩) (b.length + 1) (b.length + 1)) ∧ X.drew.cell? ⟨(g i), k, none⟩ = some (.int .i64 (tabI a b i k)) ∧ X.drew.cell? ⟨(g (i + 1)), k, none⟩ = some (.int .i64 (tabI a b (i + 1) k)) ∧ Hid (Below wd.heap.size wd X.drew ∧ bb < wd.heap.size ∧ G < wd.heap.size ∧ (g i) < wd.heap.size ∧ (g (i + 1)) < wd.heap.size))) := by
                  rintro X ⟨q0, q1, q2, q3, q4, q5, q6, hH⟩
                  exact ⟨q0, q1, q2, q3, q4, q5, q6, ⟨below_drewN hH.out.1 1, hH.out.2⟩⟩
                have K0 : Hid (wd.cell? ⟨bb, ob + i * 3, none⟩ = some (.int .i64 xk) ∧ wd.cell? ⟨bb, ob + i * 3 + 1, none⟩ = some (.string xt) ∧ wd.cell? ⟨bb, ob + i * 3 + 2, none⟩ = some (.int .i64 xd) ∧ wd.cell? ⟨G, i, none⟩ = some (.slice (some ⟨g i, 0, none⟩) (b.length + 1) (b.length + 1)) ∧ wd.cell? ⟨G, i + 1, none⟩ = some (.slice (some ⟨g (i + 1), 0, none⟩) (b.length + 1) (b.length + 1)) ∧ wd.cell? ⟨(g i), k, none⟩ = some (.int .i64 (tabI a b i k)) ∧ wd.cell? ⟨(g (i + 1)), k, none⟩ = some (.int .i64 (tabI a b (i + 1) k)) ∧ Hid (Below wd.heap.size wd wd ∧ bb < wd.heap.size ∧ G < wd.heap.size ∧ (g i) < wd.heap.size ∧ (g (i + 1)) < wd.heap.size)) := ⟨(u0), (u1'), (u2), (u6), (u7), (u8), (u9), ⟨Below.refl _ _, (m0'), (mg'), (mg0'), (mg1')⟩⟩
                go_region_held3 (fun w' => w'.cell? ⟨bb, ob + i * 3, none⟩ = some (.int .i64 xk) ∧ w'.cell? ⟨bb, ob + i * 3 + 1, none⟩ = some (.string xt) ∧ w'.cell? ⟨bb, ob + i * 3 + 2, none⟩ = some (.int .i64 xd) ∧ w'.cell? ⟨G, i, none⟩ = some (.slice (some ⟨g i, 0, none⟩) (b.length + 1) (b.length + 1)) ∧ w'.cell? ⟨G, i + 1, none⟩ = some (.slice (some ⟨g (i + 1), 0, none⟩) (b.length + 1) (b.length + 1)) ∧ w'.cell? ⟨(g i), k, none⟩ = some (.int .i64 (tabI a b i k)) ∧ w'.cell? ⟨(g (i + 1)), k, none⟩ = some (.int .i64 (tabI a b (i + 1) k)) ∧ Hid (Below wd.heap.size wd w' ∧ bb < wd.heap.size ∧ G < wd.heap.size ∧ (g i) < wd.heap.size ∧ (g (i + 1)) < wd.heap.size))
                  (first | exact K0.out | exact KD.out _ K0.out | assumption | exact KP.out _ _ hb' (KD.out _ K0.out) | (refine KP.out _ _ hb' ?_; with_reducible_and_instances assumption) | (refine KD.out _ ?_; with_reducible_and_instances assumption))
                  (first
                    | (go_at_call 42; refine (alone_any xk xd xt _).mono ?_; rintro e w' ⟨rfl, hb'⟩))
                rename_i hh
                obtain ⟨s0, s1, s2, s3, s4, s5, s6, sH⟩ := hh
                clear KP KD K0
                obtain ⟨wb, rfl⟩ : ∃ wz : World, wz = w' := ⟨_, rfl⟩
                have O3 := Lib.hid (own_below O2.out sH.out.1 (Nat.le_refl _))
                have B3 := Lib.hid (B2.out.trans (sH.out.1.mono B2.out.size))
                have hz3 := sH.out.1.size
                have hzw3 := B3.out.size
                clear sH s0 s1 s2 s3 s4 s5 s6
                go_wp2_with (at_builtin; go_must (refine wpList_app1 rfl (.tmp 113) (.tmp 116) 41 43 rfl Try.underlying41 _ 2 16 edit_info rfl (by decide) w1.heap.size _ _ _ rfl (by exact World.ownsRow.alloc O3.out _) ⟨wb.heap.size, 0, none⟩ 1 (edC (⟨-1, k⟩)) rfl rfl (by exact cells_new _ _ _) (edC_one _) (by omega) (by decide) (by simp; omega) ?_); intro g9 cap w9 hown1 hg1 hbel1 hgr1)
                have HB9 := Lib.hid (hbel1 _ _ (Nat.le_refl _) (by exact B3.out.alloc B3.out.size _))
                have HO9 := Lib.hid (OwnE.snoc hown1)
                clear hown1 hg1 hbel1 hgr1
                go_wp2_with fail
                refine ⟨⟨i, k + 1, L ++ [⟨-1, k⟩], n, by omega, by omega, by omega, rfl, by go_num, HO9.out, HB9.out, ?_, by (try simp only [List.length_append, List.length_singleton]); omega⟩, by simp [intOf]; try omega⟩
                show L ++ [⟨-1, k⟩] ++ alnF a b n _ _ = _
                rw [List.append_assoc, ← HTGT.out, HST.out]
                rfl
          · have HEQ := Lib.hid (tab_a a b i k hia (by omega))
            have HST : Hid (alnS a b i k = (⟨i, -1⟩, i + 1, k)) := by show alnS a b i k = _; unfold alnS; rw [dif_neg (fun e => hkb e.2), if_pos hia]
            have k1 : ¬ (k : Int) < (b.length : Int) := by omega
            generalize a[i] = x at q1 q2 q3 hsx hxi HEQ
            obtain ⟨xk, xt, xd⟩ := x
            clear hxi
            simp only at q1 q2 q3
            have b1 : (singleI ⟨xk, xt, xd⟩ + tabI a b (i + 1) k == tabI a b i k) = true := by have := HEQ.out; simp; omega
            have u1 : IntKind.i64.wrap (singleI ⟨xk, xt, xd⟩ + tabI a b (i + 1) k) = singleI ⟨xk, xt, xd⟩ + tabI a b (i + 1) k := by rw [IntKind.wrap_i64]; omega
            go_wp2_with fail
            have KP : Hid (∀ X X' : World, Below X.heap.size X X' → (X.cell? ⟨bb, ob + i * 3, none⟩ = some (.int .i64 xk) ∧ X.cell? ⟨bb, ob + i * 3 + 1, none⟩ = some (.string xt) ∧ X.cell? ⟨bb, ob + i * 3 + 2, none⟩ = some (.int .i64 xd) ∧ X.cell? ⟨G, i, none⟩ = some (.slice (some ⟨g i, 0, none⟩) (b.length + 1) (b.length + 1)) ∧ X.cell? ⟨G, i + 1, none⟩ = some (.slice (some ⟨g (i + 1), 0, none⟩) (b.length + 1) (b.length + 1)) ∧ X.cell? ⟨(g i), k, none⟩ = some (.int .i64 (tabI a b i k)) ∧ X.cell? ⟨(g (i + 1)), k, none⟩ = some (.int .i64 (tabI a b (i + 1) k)) ∧ Hid (Below wr.heap.size wr X ∧ bb < wr.heap.size ∧ G < wr.heap.size ∧ (g i) < wr.heap.size ∧ (g (i + 1)) < wr.heap.size)) → (X'.cell? ⟨bb, ob + i * 3, none⟩ = some (.int .i64 xk) ∧ X'.cell? ⟨bb, ob + i * 3 + 1, none⟩ = some (.string xt) ∧ X'.cell? ⟨bb, ob + i * 3 + 2, none⟩ = some (.int .i64 xd) ∧ X'.cell? ⟨G, i, none⟩ = some (.slice (some ⟨g i, 0, none⟩) (b.length + 1) (b.length + 1)) ∧ X'.cell? ⟨G, i + 1, none⟩ = some (.slice (some ⟨g (i + 1), 0, none⟩) (b.length + 1) (b.length + 1)) ∧ X'.cell? ⟨(g i), k, none⟩ = some (.int .i64 (tabI a b i k)) ∧ X'.cell? ⟨(g (i + 1)), k, none⟩ = some (.int .i64 (tabI a b (i + 1) k)) ∧ Hid (Below wr.heap.size wr X' ∧ bb < wr.heap.size ∧ G < wr.heap.size ∧ (g i) < wr.heap.size ∧ (g (i + 1)) < wr.heap.size))) := by
              rintro X X' hb ⟨q0, q1, q2, q3, q4, q5, q6, hH⟩
              obtain ⟨hB, l0, l1, l2, l3⟩ := hH.out
              have hsz := hB.size
              exact ⟨(hb.cell (p := ⟨bb, ob + i * 3, none⟩) (Nat.lt_of_lt_of_le l0 hsz)).trans q0, (hb.cell (p := ⟨bb, ob + i * 3 + 1, none⟩) (Nat.lt_of_lt_of_le l0 hsz)).trans q1, (hb.cell (p := ⟨bb, ob + i * 3 + 2, none⟩) (Nat.lt_of_lt_of_le l0 hsz)).trans q2, (hb.cell (p := ⟨G, i, none⟩) (Nat.lt_of_lt_of_le l1 hsz)).trans q3, (hb.cell (p := ⟨G, i + 1, none⟩) (Nat.lt_of_lt_of_le l1 hsz)).trans q4, (hb.cell (p := ⟨(g i), k, none⟩) (Nat.lt_of_lt_of_le l2 hsz)).trans q5, (hb.cell (p := ⟨(g (i + 1)), k, none⟩) (Nat.lt_of_lt_of_le l3 hsz)).trans q6, ⟨hB.trans (hb.mono hsz), l0, l1, l2, l3⟩⟩
            have KD : Hid (∀ X : World, (X.cell? ⟨bb, ob + i * 3, none⟩ = some (.int .i64 xk) ∧ X.cell? ⟨bb, ob + i * 3 + 1, none⟩ = some (.string xt) ∧ X.cell? ⟨bb, ob + i * 3 + 2, none⟩ = some (.int .i64 xd) ∧ X.cell? ⟨G, i, none⟩ = some (.slice (some ⟨g i, 0, none⟩) (b.length + 1) (b.length + 1)) ∧ X.cell? ⟨G, i + 1, none⟩ = some (.slice (some ⟨g (i + 1), 0, none⟩) (b.length + 1) (b.length + 1)) ∧ X.cell? ⟨(g i), k, none⟩ = some (.int .i64 (tabI a b i k)) ∧ X.cell? ⟨(g (i + 1)), k, none⟩ = some (.int .i64 (tabI a b (i + 1) k)) ∧ Hid (Below wr.heap.size wr X ∧ bb < wr.heap.size ∧ G < wr.heap.size ∧ (g i) < wr.heap.size ∧ (g (i + 1)) < wr.heap.size)) → (X.drew.cell? ⟨bb, ob + i * 3, none⟩ = some (.int .i64 xk) ∧ X.drew.cell? ⟨bb, ob + i * 3 + 1, none⟩ = some (.string xt) ∧ X.drew.cell? ⟨bb, ob + i * 3 + 2, none⟩ = some (.int .i64 xd) ∧ X.drew.cell? ⟨G, i, none⟩ = some (.slice (some ⟨g i, 0, none⟩) (b.length + 1) (b.length + 1)) ∧ X.drew.cell? ⟨G, i + 1, none⟩ = some (.slice (some ⟨g (i + 1), 0, none⟩) (b.length + 1) (b.length + 1)) ∧ X.drew.cell? ⟨(g i), k, none⟩ = some (.int .i64 (tabI a b i k)) ∧ X.drew.cell? ⟨(g (i + 1)), k, none⟩ = some (.int .i64 (tabI a b (i + 1) k)) ∧ Hid (Below wr.heap.size wr X.drew ∧ bb < wr.heap.size ∧ G < wr.heap.size ∧ (g i) < wr.heap.size ∧ (g (i + 1)) < wr.heap.size))) := by
              rintro X ⟨q0, q1, q2, q3, q4, q5, q6, hH⟩
              exact ⟨q0, q1, q2, q3, q4, q5, q6, ⟨below_drewN hH.out.1 1, hH.out.2⟩⟩
            have K0 : Hid (wr.cell? ⟨bb, ob + i * 3, none⟩ = some (.int .i64 xk) ∧ wr.cell? ⟨bb, ob + i * 3 + 1, none⟩ = some (.string xt) ∧ wr.cell? ⟨bb, ob + i * 3 + 2, none⟩ = some (.int .i64 xd) ∧ wr.cell? ⟨G, i, none⟩ = some (.slice (some ⟨g i, 0, none⟩) (b.length + 1) (b.length + 1)) ∧ wr.cell? ⟨G, i + 1, none⟩ = some (.slice (some ⟨g (i + 1), 0, none⟩) (b.length + 1) (b.length + 1)) ∧ wr.cell? ⟨(g i), k, none⟩ = some (.int .i64 (tabI a b i k)) ∧ wr.cell? ⟨(g (i + 1)), k, none⟩ = some (.int .i64 (tabI a b (i + 1) k)) ∧ Hid (Below wr.heap.size wr wr ∧ bb < wr.heap.size ∧ G < wr.heap.size ∧ (g i) < wr.heap.size ∧ (g (i + 1)) < wr.heap.size)) := ⟨(q1), (q2), (q3), (o0), (o1), (c0), (c1), ⟨Below.refl _ _, (hl0), (hlg), (hl0g), (hl1g)⟩⟩
            go_region_held3 (fun w' => w'.cell? ⟨bb, ob + i * 3, none⟩ = some (.int .i64 xk) ∧ w'.cell? ⟨bb, ob + i * 3 + 1, none⟩ = some (.string xt) ∧ w'.cell? ⟨bb, ob + i * 3 + 2, none⟩ = some (.int .i64 xd) ∧ w'.cell? ⟨G, i, none⟩ = some (.slice (some ⟨g i, 0, none⟩) (b.length + 1) (b.length + 1)) ∧ w'.cell? ⟨G, i + 1, none⟩ = some (.slice (some ⟨g (i + 1), 0, none⟩) (b.length + 1) (b.length + 1)) ∧ w'.cell? ⟨(g i), k, none⟩ = some (.int .i64 (tabI a b i k)) ∧ w'.cell? ⟨(g (i + 1)), k, none⟩ = some (.int .i64 (tabI a b (i + 1) k)) ∧ Hid (Below wr.heap.size wr w' ∧ bb < wr.heap.size ∧ G < wr.heap.size ∧ (g i) < wr.heap.size ∧ (g (i + 1)) < wr.heap.size))
              (first | exact K0.out | exact KD.out _ K0.out | assumption | exact KP.out _ _ hb' (KD.out _ K0.out) | (refine KP.out _ _ hb' ?_; with_reducible_and_instances assumption) | (refine KD.out _ ?_; with_reducible_and_instances assumption))
              (first
                | (go_at_call 42; refine (alone_any xk xd xt _).mono ?_; rintro e w' ⟨rfl, hb'⟩))
            rename_i hh
            obtain ⟨s0, s1, s2, s3, s4, s5, s6, sH⟩ := hh
            clear KP KD K0
            obtain ⟨wb, rfl⟩ : ∃ wz : World, wz = w' := ⟨_, rfl⟩
            have O2 := Lib.hid (own_below HO.out sH.out.1 (Nat.le_refl _))
            have B2 := Lib.hid (HBR.out.trans (sH.out.1.mono HBR.out.size))
            have hz2 := sH.out.1.size
            have hzw2 := B2.out.size
            clear sH s0 s1 s2 s3 s4 s5 s6
            go_wp2_with (at_builtin; go_must (refine wpList_app1 rfl (.tmp 106) (.tmp 109) 41 43 rfl Try.underlying41 _ 2 16 edit_info rfl (by decide) w1.heap.size _ _ _ rfl (by exact World.ownsRow.alloc O2.out _) ⟨wb.heap.size, 0, none⟩ 1 (edC (⟨i, -1⟩)) rfl rfl (by exact cells_new _ _ _) (edC_one _) (by omega) (by decide) (by simp; omega) ?_); intro g9 cap w9 hown1 hg1 hbel1 hgr1)
            have HB9 := Lib.hid (hbel1 _ _ (Nat.le_refl _) (by exact B2.out.alloc B2.out.size _))
            have HO9 := Lib.hid (OwnE.snoc hown1)
            clear hown1 hg1 hbel1 hgr1
            go_wp2_with fail
            refine ⟨⟨i + 1, k, L ++ [⟨i, -1⟩], n, by omega, by omega, by omega, by go_num, rfl, HO9.out, HB9.out, ?_, by (try simp only [List.length_append, List.length_singleton]); omega⟩, by simp [intOf]; try omega⟩
            show L ++ [⟨i, -1⟩] ++ alnF a b n _ _ = _
            rw [List.append_assoc, ← HTGT.out, HST.out]
            rfl
        · have i1 : ¬ (i : Int) < (a.length : Int) := by omega
          have i1d : decide ((i : Int) < (a.length : Int)) = false := by simpa using i1
          have k1 : (k : Int) < (b.length : Int) := by omega
          have k1d : decide ((k : Int) < (b.length : Int)) = true := by simpa using k1
          have HST : Hid (alnS a b i k = (⟨-1, k⟩, i, k + 1)) := by show alnS a b i k = _; unfold alnS; rw [dif_neg (fun e => hia e.1), if_neg hia]
          go_wp2_with fail
          go_quiet (fail)
          have O2 : Hid (OwnE 43 edC 2 (wr.drewN nq) w1.heap.size (.slice Ao L.length co) L) := HO
          have B2 : Hid (Below w1.heap.size w1 (wr.drewN nq)) := Lib.hid (below_drewN HBR.out nq)
          have hzd : w1.heap.size ≤ (wr.drewN nq).heap.size := hzr
          generalize wr.drewN nq = wd at O2 B2 hzd
          go_wp2_with (at_builtin; go_must (refine wpList_app1 rfl (.tmp 113) (.tmp 116) 41 43 rfl Try.underlying41 _ 2 16 edit_info rfl (by decide) w1.heap.size _ _ _ rfl (by exact World.ownsRow.alloc O2.out _) ⟨wd.heap.size, 0, none⟩ 1 (edC (⟨-1, k⟩)) rfl rfl (by exact cells_new _ _ _) (edC_one _) (by omega) (by decide) (by simp; omega) ?_); intro g9 cap w9 hown1 hg1 hbel1 hgr1)
          have HB9 := Lib.hid (hbel1 _ _ (Nat.le_refl _) (by exact B2.out.alloc B2.out.size _))
          have HO9 := Lib.hid (OwnE.snoc hown1)
          clear hown1 hg1 hbel1 hgr1
          go_wp2_with fail
          refine ⟨⟨i, k + 1, L ++ [⟨-1, k⟩], n, by omega, by omega, by omega, rfl, by go_num, HO9.out, HB9.out, ?_, by (try simp only [List.length_append, List.length_singleton]); omega⟩, by simp [intOf]; try omega⟩
          show L ++ [⟨-1, k⟩] ++ alnF a b n _ _ = _
          rw [List.append_assoc, ← HTGT.out, HST.out]
          rfl
    · have e0 : ¬ (i : Int) < (a.length : Int) := by omega
      have k0 : ¬ (k : Int) < (b.length : Int) := by omega
      have HE : Hid (L = alnL a b) := by
        have h := HTGT.out
        cases n with
        | zero => rw [alnF, List.append_nil] at h; exact h
        | succ n => rw [alnF, if_neg hdone, List.append_nil] at h; exact h
      go_wp2_with fail
      go_ret
      refine ⟨_, rfl, ?_, HB1.out.trans (HBR.out.mono hz1)⟩
      rw [← HE.out]
      exact own_base HO.out hz1

end Go.Proofs.Yteccphcophjhpaa
