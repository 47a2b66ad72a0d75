
/-
  Distance of package distance.
-/
import Derived.Test.YteccphcophjhpaaSurB
import Derived.Deep.OwnRows
import Derived.Deep.DeepCutAuto
namespace Go.Proofs.Yteccphcophjhpaa
open Go.RowKit

theorem int_info : (Try.prog.info? 3).map (fun i => (i.zero, i.size, i.bytes)) = some (some (.int .i64 0), 1, 8) := by kernel_rfl

/-- The least sum for the first tokens of both lists. -/
def Pf (a b : List Tk) (i j : Nat) : Int := ed (a.take i).reverse (b.take j).reverse
theorem Pf_bd (a b : List Tk) (i j : Nat) (hi : i ≤ a.length) (hj : j ≤ b.length) : 0 ≤ Pf a b i j ∧ Pf a b i j ≤ 4 * i + 4 * j := by
  refine ⟨ed_nonneg _ _, ?_⟩
  have := ed_bound (a.take i).reverse (b.take j).reverse
  rw [List.length_reverse, List.length_reverse, List.length_take, List.length_take, Nat.min_eq_left hi, Nat.min_eq_left hj] at this
  exact this
theorem take_rev (l : List Tk) (k : Nat) (h : k < l.length) : (l.take (k + 1)).reverse = l[k] :: (l.take k).reverse := by
  rw [List.take_succ_eq_append_getElem h, List.reverse_append]
  rfl
theorem Pf_00 (a b : List Tk) : Pf a b 0 0 = 0 := rfl
theorem Pf_0j (a b : List Tk) (j : Nat) (h : j < b.length) : Pf a b 0 (j + 1) = Pf a b 0 j + singleI b[j] := by
  unfold Pf
  rw [take_rev b j h]
  show ed [] _ = ed [] _ + _
  rw [ed_nc]
  omega
theorem Pf_i0 (a b : List Tk) (i : Nat) (h : i < a.length) : Pf a b (i + 1) 0 = Pf a b i 0 + singleI a[i] := by
  unfold Pf
  rw [take_rev a i h]
  show ed (_ :: _) [] = ed _ [] + _
  rw [ed_cn]
  omega
theorem Pf_ok (a b : List Tk) (i j : Nat) (hi : i < a.length) (hj : j < b.length) (h : costOk a[i] b[j] = true) : Pf a b (i + 1) (j + 1) = min (min (Pf a b i (j + 1) + singleI a[i]) (Pf a b (i + 1) j + singleI b[j])) (Pf a b i j + costI a[i] b[j]) := by
  unfold Pf
  rw [take_rev a i hi, take_rev b j hj, ed_cc_ok _ _ _ _ h]
  omega
theorem Pf_no (a b : List Tk) (i j : Nat) (hi : i < a.length) (hj : j < b.length) (h : costOk a[i] b[j] = false) : Pf a b (i + 1) (j + 1) = min (Pf a b i (j + 1) + singleI a[i]) (Pf a b (i + 1) j + singleI b[j]) := by
  unfold Pf
  rw [take_rev a i hi, take_rev b j hj, ed_cc_no _ _ _ _ h]
  omega
theorem Pf_end (a b : List Tk) : Pf a b a.length b.length = ed a b := by
  unfold Pf
  rw [List.take_length, List.take_length, ed_rev]

set_option maxRecDepth 100000 in
set_option maxHeartbeats 16000000 in
theorem dist_any (a b : List Tk) (va vb : Value) (w : World) (ha : RdT w va a) (hb : RdT w vb b) (hla : a.length ≤ 100000) (hlb : b.length ≤ 100000) (hia : ∀ x ∈ a, TkD x) (hib : ∀ x ∈ b, TkD x) :
    Calls Try.prog 17 #[va, vb] w fun e w' => e = .returned (.int .i64 (distI a b)) ∧ Below w.heap.size w w' := by
  obtain ⟨A, c, rfl, _, _⟩ := ha.shape
  obtain ⟨A2, c2, rfl, _, _⟩ := hb.shape
  have HA := Lib.hid ha
  have HB := Lib.hid hb
  have HIA := Lib.hid hia
  have HIB := Lib.hid hib
  have hmk := fun w => run_make_row' (P := Try.prog) 24 3 (.int .i64 0) 8 Try.underlying24 int_info rfl .i64 .i64 (b.length + 1) (by omega) (by omega) w
  have hcast : ((b.length + 1 : Nat) : Int) = (b.length : Int) + 1 := by omega
  rw [hcast] at hmk
  clear ha hb hia hib hcast
  go_enter Try.func17, Try.ntmps17
  go_wp2_with fail
  go_loopw [22] (fun i wr => ∃ k : Nat, k ≤ b.length ∧ i = .int .i64 k ∧ Hid (wr.rowIs w.heap.size 3 (b.length + 1) (fun j => .int .i64 (if j ≤ k then Pf a b 0 j else 0))) ∧ Hid (Below w.heap.size w wr)) (fun i _ => b.length - (intOf i).toNat)
  case atStart =>
    refine ⟨0, by omega, rfl, ?_, (Below.refl _ _).alloc (Nat.le_refl _) _⟩
    refine (World.rowIs_made w (.int .i64 0) (b.length + 1) 3).congr fun j _ => ?_
    by_cases h : j ≤ 0
    · obtain rfl : j = 0 := by omega
      rfl
    · rw [if_neg h]
  case round =>
    obtain ⟨k, hk, rfl, HR, HBW⟩ := hrel
    have hsz := HBW.out.size
    have hgl := HR.out.lt
    by_cases hkl : k < b.length
    · obtain ⟨bb, o, rfl, hbl, q1, q2, q3⟩ := RdT.at_ HB.out k hkl
      rw [← HBW.out.cell (p := ⟨bb, o + k * 3, none⟩) hbl] at q1
      rw [← HBW.out.cell (p := ⟨bb, o + k * 3 + 1, none⟩) hbl] at q2
      rw [← HBW.out.cell (p := ⟨bb, o + k * 3 + 2, none⟩) hbl] at q3
      have hp := Pf_bd a b 0 k (by omega) hk
      have HPS := Lib.hid (Pf_0j a b k hkl)
      have hsb := single_bd b[k]
      generalize b[k] = x at q1 q2 q3 HPS hsb
      obtain ⟨xk, xt, xd⟩ := x
      simp only at q1 q2 q3
      have HR1 := Lib.hid (HR.out.alloc (.cells #[.int .i64 xk, .string xt, .int .i64 xd] 23))
      have r0 := HR1.out.cell (i := k) (by omega)
      have r1 := HR1.out.cell (i := k + 1) (by omega)
      simp only [Nat.le_refl, if_true, if_neg (show ¬ k + 1 ≤ k by omega)] at r0 r1
      have rf := HR1.out.frozen (k + 1)
      have e1 : IntKind.i64.wrap ((k : Int) + 1) = (k : Int) + 1 := by rw [IntKind.wrap_i64]; omega
      have e2 : ((k : Int) + 1).toNat = k + 1 := by omega
      have e3 : 0 ≤ (k : Int) + 1 := by omega
      have e4 : (k : Int) + 1 < (b.length : Int) + 1 := by omega
      have e5 : (k : Int) < (b.length : Int) + 1 := by omega
      have e6 : IntKind.i64.wrap (Pf a b 0 k + singleI ⟨xk, xt, xd⟩) = Pf a b 0 k + singleI ⟨xk, xt, xd⟩ := by rw [IntKind.wrap_i64]; omega
      go_wp2_with fail
      go_region_with ((go_at_call 38; refine (single_any xk xd xt _).mono ?_; rintro e w' ⟨rfl, hb'⟩; have hgx : w.heap.size < (wr.alloc (.cells #[.int .i64 xk, .string xt, .int .i64 xd] 23)).heap.size := by simp; omega
                       have s0 := (hb'.cell (p := ⟨w.heap.size, k, none⟩) hgx).trans r0
                       have s1 := (hb'.cell (p := ⟨w.heap.size, k + 1, none⟩) hgx).trans r1
                       have s2 := (hb'.frozen (p := ⟨w.heap.size, k + 1, none⟩) hgx).trans rf))
      all_goals
        have hgx : w.heap.size < (wr.alloc (.cells #[.int .i64 xk, .string xt, .int .i64 xd] 23)).heap.size := by simp; omega
        have hR' := Lib.hid (((HR1.out.of_block (hb'.block w.heap.size hgx)).set (k + 1) (.int .i64 (Pf a b 0 k + singleI ⟨xk, xt, xd⟩))).congr (g := fun j => .int .i64 (if j ≤ k + 1 then Pf a b 0 j else 0)) fun j _ => by
          by_cases h1 : j = k + 1
          · rw [if_pos h1, h1, if_pos (Nat.le_refl _), HPS.out]
          · rw [if_neg h1]
            by_cases h2 : j ≤ k
            · rw [if_pos h2, if_pos (by omega)]
            · rw [if_neg h2, if_neg (by omega)])
        have hB' := Lib.hid (((HBW.out.alloc hsz (.cells #[.int .i64 xk, .string xt, .int .i64 xd] 23)).trans ((below_drewN (Below.refl _ _) 1).trans (hb'.mono (by exact Nat.le_of_lt hgx)))).setCell (p := ⟨w.heap.size, k + 1, none⟩) (Nat.le_refl _) (.int .i64 (Pf a b 0 k + singleI ⟨xk, xt, xd⟩)))
        clear r0 r1 rf e1 e2 e3 e4 e5 e6
        go_wp2_with fail
        exact ⟨⟨k + 1, by omega, by go_num, hR'.out, hB'.out⟩, by simp [intOf]; try omega⟩
    · obtain rfl : k = b.length := by omega
      have HR0 := Lib.hid (HR.out.congr (g := fun j => .int .i64 (Pf a b 0 j)) fun j hj => by rw [if_pos (by omega)])
      clear HR
      go_wp2_with fail
      obtain ⟨wo, rfl⟩ : ∃ wo : World, wo = wr := ⟨_, rfl⟩
      go_loopw [41] (fun i wr => ∃ k : Nat, k ≤ a.length ∧ i = .int .i64 k ∧ Hid (wr.rowIs w.heap.size 3 (b.length + 1) (fun j => .int .i64 (Pf a b k j))) ∧ Hid (Below w.heap.size w wr)) (fun i _ => a.length - (intOf i).toNat)
      case atStart => exact ⟨0, by omega, rfl, HR0.out, HBW.out⟩
      case round =>
        clear HR0 HBW hsz hgl
        obtain ⟨k, hk', rfl, HR, HBW⟩ := hrel
        have hsz := HBW.out.size
        have hgl := HR.out.lt
        by_cases hkl' : k < a.length
        · obtain ⟨bb, o, rfl, hbl, q1, q2, q3⟩ := RdT.at_ HA.out k hkl'
          rw [← HBW.out.cell (p := ⟨bb, o + k * 3, none⟩) hbl] at q1
          rw [← HBW.out.cell (p := ⟨bb, o + k * 3 + 1, none⟩) hbl] at q2
          rw [← HBW.out.cell (p := ⟨bb, o + k * 3 + 2, none⟩) hbl] at q3
          have hp := Pf_bd a b k 0 hk' (by omega)
          have HPS := Lib.hid (Pf_i0 a b k hkl')
          have hsb := single_bd a[k]
          have hxi := HIA.out a[k] (List.getElem_mem hkl')
          have HPO := Lib.hid (fun j hj h => Pf_ok a b k j hkl' hj h)
          have HPN := Lib.hid (fun j hj h => Pf_no a b k j hkl' hj h)
          have HPB := Lib.hid (fun j hj => Pf_bd a b k j hk' hj)
          have HPB1 := Lib.hid (fun j hj => Pf_bd a b (k + 1) j (by omega) hj)
          generalize a[k] = x at q1 q2 q3 HPS hsb hxi HPO HPN
          obtain ⟨xk, xt, xd⟩ := x
          have hxt : xt.size ≤ maxLen := hxi.1
          clear hxi
          simp only at q1 q2 q3
          have HR1 := Lib.hid (HR.out.alloc (.cells #[.int .i64 xk, .string xt, .int .i64 xd] 23))
          have r0 := HR1.out.cell (i := 0) (by omega)
          have rf := HR1.out.frozen 0
          have e5 : (0 : Int) < (b.length : Int) + 1 := by omega
          have e6 : IntKind.i64.wrap (Pf a b k 0 + singleI ⟨xk, xt, xd⟩) = Pf a b k 0 + singleI ⟨xk, xt, xd⟩ := by rw [IntKind.wrap_i64]; omega
          have hbx0 : Hid ((wr.alloc (.cells #[.int .i64 xk, .string xt, .int .i64 xd] 23)).heap[wr.heap.size]? = some (.cells #[.int .i64 xk, .string xt, .int .i64 xd] 23)) := Array.getElem?_push_size
          go_upto_region 11 with (fail)
          go_cut [] (fun wx => Hid (wx.rowIs w.heap.size 3 (b.length + 1) (fun j => .int .i64 (if j ≤ 0 then Pf a b (k + 1) j else Pf a b k j))) ∧ Hid (wx.heap[wr.heap.size]? = some (.cells #[.int .i64 xk, .string xt, .int .i64 xd] 23)) ∧ Hid (Below w.heap.size w wx))
          case first =>
            go_region_with ((go_at_call 38; refine (single_any xk xd xt _).mono ?_; rintro e w' ⟨rfl, hb'⟩; have hgx : w.heap.size < (wr.alloc (.cells #[.int .i64 xk, .string xt, .int .i64 xd] 23)).heap.size := by simp; omega
                             have s0 := (hb'.cell (p := ⟨w.heap.size, 0, none⟩) hgx).trans r0
                             have s2 := (hb'.frozen (p := ⟨w.heap.size, 0, none⟩) hgx).trans rf))
            all_goals
              have hgx : w.heap.size < (wr.alloc (.cells #[.int .i64 xk, .string xt, .int .i64 xd] 23)).heap.size := by simp; omega
              have hgy : wr.heap.size < (wr.alloc (.cells #[.int .i64 xk, .string xt, .int .i64 xd] 23)).heap.size := by simp
              go_wp2_with fail
              go_meet
              refine ⟨((HR1.out.of_block (hb'.block w.heap.size hgx)).set 0 (.int .i64 (Pf a b k 0 + singleI ⟨xk, xt, xd⟩))).congr (g := fun j => .int .i64 (if j ≤ 0 then Pf a b (k + 1) j else Pf a b k j)) fun j _ => ?_, ?_, ((HBW.out.alloc hsz (.cells #[.int .i64 xk, .string xt, .int .i64 xd] 23)).trans ((below_drewN (Below.refl _ _) 1).trans (hb'.mono (by exact Nat.le_of_lt hgx)))).setCell (p := ⟨w.heap.size, 0, none⟩) (Nat.le_refl _) _⟩
              · by_cases h1 : j = 0
                · rw [if_pos h1, h1, if_pos (Nat.le_refl _), HPS.out]
                · rw [if_neg h1, if_neg (by omega)]
              · exact (Below.heap_setCell _ _ _ _ (by show wr.heap.size ≠ w.heap.size; omega)).trans ((hb'.block _ hgy).trans hbx0.out)
          case rest =>
            obtain ⟨HRX, HBX, HBWX⟩ := hcut
            clear HR HR1 r0 rf e5 e6 hbx0 HBW q1 q2 q3 HPS hp
            go_wp2_with fail
            go_loopw [10, 57] (fun dv i wr' => ∃ j : Nat, j ≤ b.length ∧ i = .int .i64 j ∧ dv = .int .i64 (Pf a b k j) ∧ Hid (wr'.rowIs w.heap.size 3 (b.length + 1) (fun j' => .int .i64 (if j' ≤ j then Pf a b (k + 1) j' else Pf a b k j'))) ∧ Hid (wr'.heap[wr.heap.size]? = some (.cells #[.int .i64 xk, .string xt, .int .i64 xd] 23)) ∧ Hid (Below w.heap.size w wr')) (fun _ i _ => b.length - (intOf i).toNat)
            case atStart => exact ⟨0, by omega, rfl, rfl, HRX.out, HBX.out, HBWX.out⟩
            case round =>
              clear HRX HBX HBWX
              obtain ⟨wz, rfl⟩ : ∃ wz : World, wz = wr := ⟨_, rfl⟩
              obtain ⟨j, hj, rfl, rfl, HRI, HBI, HBWI⟩ := hrel
              have hszi := HBWI.out.size
              have hgli := HRI.out.lt
              have hbxl := (Array.getElem?_eq_some_iff.1 HBI.out).1
              by_cases hjl : j < b.length
              · obtain ⟨b2, o2, rfl, hbl2, q1, q2, q3⟩ := RdT.at_ HB.out j hjl
                rw [← HBWI.out.cell (p := ⟨b2, o2 + j * 3, none⟩) hbl2] at q1
                rw [← HBWI.out.cell (p := ⟨b2, o2 + j * 3 + 1, none⟩) hbl2] at q2
                rw [← HBWI.out.cell (p := ⟨b2, o2 + j * 3 + 2, none⟩) hbl2] at q3
                have hp0 := HPB1.out j hj
                have hp1 := HPB.out (j + 1) (by omega)
                have hp2 := HPB.out j hj
                have hyi := HIB.out b[j] (List.getElem_mem hjl)
                have hsy := single_bd b[j]
                have HOK := Lib.hid (HPO.out j hjl)
                have HNO := Lib.hid (HPN.out j hjl)
                generalize b[j] = y at q1 q2 q3 hyi hsy HOK HNO
                obtain ⟨yk, yt, yd⟩ := y
                have hyt : yt.size ≤ maxLen := hyi.1
                clear hyi
                simp only at q1 q2 q3
                have HRQ := Lib.hid (HRI.out.alloc (.cells #[.int .i64 yk, .string yt, .int .i64 yd] 23))
                have HXQ : Hid ((wz.alloc (.cells #[.int .i64 yk, .string yt, .int .i64 yd] 23)).heap[wr.heap.size]? = some (.cells #[.int .i64 xk, .string xt, .int .i64 xd] 23)) := (Below.heap_alloc _ _ _ hbxl).trans HBI.out
                have HYQ : Hid ((wz.alloc (.cells #[.int .i64 yk, .string yt, .int .i64 yd] 23)).heap[wz.heap.size]? = some (.cells #[.int .i64 yk, .string yt, .int .i64 yd] 23)) := Array.getElem?_push_size
                have HBQ := Lib.hid (HBWI.out.alloc hszi (.cells #[.int .i64 yk, .string yt, .int .i64 yd] 23))
                have r0 := HRQ.out.cell (i := j) (by omega)
                have r1 := HRQ.out.cell (i := j + 1) (by omega)
                simp only [Nat.le_refl, if_true, if_neg (show ¬ j + 1 ≤ j by omega)] at r0 r1
                have e1 : IntKind.i64.wrap ((j : Int) + 1) = (j : Int) + 1 := by rw [IntKind.wrap_i64]; omega
                have e2 : ((j : Int) + 1).toNat = j + 1 := by omega
                have e3 : 0 ≤ (j : Int) + 1 := by omega
                have e4 : (j : Int) + 1 < (b.length : Int) + 1 := by omega
                have e5 : (j : Int) < (b.length : Int) + 1 := by omega
                have e6 : IntKind.i64.wrap (Pf a b k (j + 1) + singleI ⟨xk, xt, xd⟩) = Pf a b k (j + 1) + singleI ⟨xk, xt, xd⟩ := by rw [IntKind.wrap_i64]; omega
                have e7 : IntKind.i64.wrap (Pf a b (k + 1) j + singleI ⟨yk, yt, yd⟩) = Pf a b (k + 1) j + singleI ⟨yk, yt, yd⟩ := by rw [IntKind.wrap_i64]; omega
                have hcb := costV_bd ⟨xk, xt, xd⟩ ⟨yk, yt, yd⟩
                have hl0 : w.heap.size < (wz.alloc (.cells #[.int .i64 yk, .string yt, .int .i64 yd] 23)).heap.size := by simp; omega
                have hl1 : wr.heap.size < (wz.alloc (.cells #[.int .i64 yk, .string yt, .int .i64 yd] 23)).heap.size := by simp; omega
                have hl2 : wz.heap.size < (wz.alloc (.cells #[.int .i64 yk, .string yt, .int .i64 yd] 23)).heap.size := by simp
                by_cases hc : costOk ⟨xk, xt, xd⟩ ⟨yk, yt, yd⟩ = true
                · have HV := Lib.hid (costV_ok hc)
                  have HEQ := Lib.hid (HOK.out hc)
                  go_wp2_with fail
                  generalize wz.alloc (.cells #[.int .i64 yk, .string yt, .int .i64 yd] 23) = wq at HRQ HXQ HYQ HBQ r0 r1 hl0 hl1 hl2
                  obtain ⟨x0, x1, x2⟩ := tbox HXQ.out
                  obtain ⟨y0, y1, y2⟩ := tbox HYQ.out
                  have KP : Hid (∀ X X' : World, Below X.heap.size X X' → (X.cell? ⟨w.heap.size, j, none⟩ = some (.int .i64 (Pf a b (k + 1) j)) ∧ X.cell? ⟨w.heap.size, j + 1, none⟩ = some (.int .i64 (Pf a b k (j + 1))) ∧ X.cell? ⟨wr.heap.size, 0, none⟩ = some (.int .i64 xk) ∧ X.cell? ⟨wr.heap.size, 1, none⟩ = some (.string xt) ∧ X.cell? ⟨wr.heap.size, 2, none⟩ = some (.int .i64 xd) ∧ X.cell? ⟨wz.heap.size, 0, none⟩ = some (.int .i64 yk) ∧ X.cell? ⟨wz.heap.size, 1, none⟩ = some (.string yt) ∧ X.cell? ⟨wz.heap.size, 2, none⟩ = some (.int .i64 yd) ∧ Hid (Below wq.heap.size wq X ∧ w.heap.size < wq.heap.size ∧ wr.heap.size < wq.heap.size ∧ wz.heap.size < wq.heap.size)) → (X'.cell? ⟨w.heap.size, j, none⟩ = some (.int .i64 (Pf a b (k + 1) j)) ∧ X'.cell? ⟨w.heap.size, j + 1, none⟩ = some (.int .i64 (Pf a b k (j + 1))) ∧ X'.cell? ⟨wr.heap.size, 0, none⟩ = some (.int .i64 xk) ∧ X'.cell? ⟨wr.heap.size, 1, none⟩ = some (.string xt) ∧ X'.cell? ⟨wr.heap.size, 2, none⟩ = some (.int .i64 xd) ∧ X'.cell? ⟨wz.heap.size, 0, none⟩ = some (.int .i64 yk) ∧ X'.cell? ⟨wz.heap.size, 1, none⟩ = some (.string yt) ∧ X'.cell? ⟨wz.heap.size, 2, none⟩ = some (.int .i64 yd) ∧ Hid (Below wq.heap.size wq X' ∧ w.heap.size < wq.heap.size ∧ wr.heap.size < wq.heap.size ∧ wz.heap.size < wq.heap.size))) := by
                    rintro X X' hb ⟨q0, q1, q2, q3, q4, q5, q6, q7, hH⟩
                    obtain ⟨hB, l0, l1, l2⟩ := hH.out
                    have hsz := hB.size
                    exact ⟨(hb.cell (p := ⟨w.heap.size, j, none⟩) (Nat.lt_of_lt_of_le l0 hsz)).trans q0, (hb.cell (p := ⟨w.heap.size, j + 1, none⟩) (Nat.lt_of_lt_of_le l0 hsz)).trans q1, (hb.cell (p := ⟨wr.heap.size, 0, none⟩) (Nat.lt_of_lt_of_le l1 hsz)).trans q2, (hb.cell (p := ⟨wr.heap.size, 1, none⟩) (Nat.lt_of_lt_of_le l1 hsz)).trans q3, (hb.cell (p := ⟨wr.heap.size, 2, none⟩) (Nat.lt_of_lt_of_le l1 hsz)).trans q4, (hb.cell (p := ⟨wz.heap.size, 0, none⟩) (Nat.lt_of_lt_of_le l2 hsz)).trans q5, (hb.cell (p := ⟨wz.heap.size, 1, none⟩) (Nat.lt_of_lt_of_le l2 hsz)).trans q6, (hb.cell (p := ⟨wz.heap.size, 2, none⟩) (Nat.lt_of_lt_of_le l2 hsz)).trans q7, ⟨hB.trans (hb.mono hsz), l0, l1, l2⟩⟩
                  have KD : Hid (∀ X : World, (X.cell? ⟨w.heap.size, j, none⟩ = some (.int .i64 (Pf a b (k + 1) j)) ∧ X.cell? ⟨w.heap.size, j + 1, none⟩ = some (.int .i64 (Pf a b k (j + 1))) ∧ X.cell? ⟨wr.heap.size, 0, none⟩ = some (.int .i64 xk) ∧ X.cell? ⟨wr.heap.size, 1, none⟩ = some (.string xt) ∧ X.cell? ⟨wr.heap.size, 2, none⟩ = some (.int .i64 xd) ∧ X.cell? ⟨wz.heap.size, 0, none⟩ = some (.int .i64 yk) ∧ X.cell? ⟨wz.heap.size, 1, none⟩ = some (.string yt) ∧ X.cell? ⟨wz.heap.size, 2, none⟩ = some (.int .i64 yd) ∧ Hid (Below wq.heap.size wq X ∧ w.heap.size < wq.heap.size ∧ wr.heap.size < wq.heap.size ∧ wz.heap.size < wq.heap.size)) → (X.drew.cell? ⟨w.heap.size, j, none⟩ = some (.int .i64 (Pf a b (k + 1) j)) ∧ X.drew.cell? ⟨w.heap.size, j + 1, none⟩ = some (.int .i64 (Pf a b k (j + 1))) ∧ X.drew.cell? ⟨wr.heap.size, 0, none⟩ = some (.int .i64 xk) ∧ X.drew.cell? ⟨wr.heap.size, 1, none⟩ = some (.string xt) ∧ X.drew.cell? ⟨wr.heap.size, 2, none⟩ = some (.int .i64 xd) ∧ X.drew.cell? ⟨wz.heap.size, 0, none⟩ = some (.int .i64 yk) ∧ X.drew.cell? ⟨wz.heap.size, 1, none⟩ = some (.string yt) ∧ X.drew.cell? ⟨wz.heap.size, 2, none⟩ = some (.int .i64 yd) ∧ Hid (Below wq.heap.size wq X.drew ∧ w.heap.size < wq.heap.size ∧ wr.heap.size < wq.heap.size ∧ wz.heap.size < wq.heap.size))) := by
                    rintro X ⟨q0, q1, q2, q3, q4, q5, q6, q7, hH⟩
                    exact ⟨q0, q1, q2, q3, q4, q5, q6, q7, ⟨below_drewN hH.out.1 1, hH.out.2⟩⟩
                  have K0 : Hid (wq.cell? ⟨w.heap.size, j, none⟩ = some (.int .i64 (Pf a b (k + 1) j)) ∧ wq.cell? ⟨w.heap.size, j + 1, none⟩ = some (.int .i64 (Pf a b k (j + 1))) ∧ wq.cell? ⟨wr.heap.size, 0, none⟩ = some (.int .i64 xk) ∧ wq.cell? ⟨wr.heap.size, 1, none⟩ = some (.string xt) ∧ wq.cell? ⟨wr.heap.size, 2, none⟩ = some (.int .i64 xd) ∧ wq.cell? ⟨wz.heap.size, 0, none⟩ = some (.int .i64 yk) ∧ wq.cell? ⟨wz.heap.size, 1, none⟩ = some (.string yt) ∧ wq.cell? ⟨wz.heap.size, 2, none⟩ = some (.int .i64 yd) ∧ Hid (Below wq.heap.size wq wq ∧ w.heap.size < wq.heap.size ∧ wr.heap.size < wq.heap.size ∧ wz.heap.size < wq.heap.size)) := ⟨(r0), (r1), (x0), (x1), (x2), (y0), (y1), (y2), ⟨Below.refl _ _, (hl0), (hl1), (hl2)⟩⟩
                  go_region_held3 (fun w' => w'.cell? ⟨w.heap.size, j, none⟩ = some (.int .i64 (Pf a b (k + 1) j)) ∧ w'.cell? ⟨w.heap.size, j + 1, none⟩ = some (.int .i64 (Pf a b k (j + 1))) ∧ w'.cell? ⟨wr.heap.size, 0, none⟩ = some (.int .i64 xk) ∧ w'.cell? ⟨wr.heap.size, 1, none⟩ = some (.string xt) ∧ w'.cell? ⟨wr.heap.size, 2, none⟩ = some (.int .i64 xd) ∧ w'.cell? ⟨wz.heap.size, 0, none⟩ = some (.int .i64 yk) ∧ w'.cell? ⟨wz.heap.size, 1, none⟩ = some (.string yt) ∧ w'.cell? ⟨wz.heap.size, 2, none⟩ = some (.int .i64 yd) ∧ Hid (Below wq.heap.size wq w' ∧ w.heap.size < wq.heap.size ∧ wr.heap.size < wq.heap.size ∧ wz.heap.size < wq.heap.size))
                    (first | exact K0.out | exact KD.out _ K0.out | assumption | exact KP.out _ _ hb' (KD.out _ K0.out) | (refine KP.out _ _ hb' ?_; with_reducible_and_instances assumption) | (refine KD.out _ ?_; with_reducible_and_instances assumption))
                    (first
                      | (go_at_call 38; refine (single_any _ _ _ _).mono ?_; rintro e w' ⟨rfl, hb'⟩))
                  rename_i hh
                  obtain ⟨t0, t1, t2, t3, t4, t5, t6, t7, tH⟩ := hh
                  clear KP KD K0
                  have hzw := tH.out.1.size
                  clear r0 r1 x0 x1 x2 y0 y1 y2 e6 e7
                  go_wp2_with fail
                  all_goals
                    refine (cost_any xk xd yk yd xt yt _ hxt hyt).mono ?_
                    rintro e w2 ⟨rfl, hb2⟩
                    have hz2 := hb2.size
                    have HR2 := Lib.hid ((HRQ.out.of_block (tH.out.1.block _ hl0)).of_block (hb2.block _ (by omega)))
                    have HX2 := Lib.hid ((hb2.block wr.heap.size (by omega)).trans ((tH.out.1.block _ hl1).trans HXQ.out))
                    have HB2 := Lib.hid ((HBQ.out.trans (tH.out.1.mono (by omega))).trans (hb2.mono (by omega)))
                    have r1 := HR2.out.cell (i := j + 1) (by omega)
                    have rf := HR2.out.frozen (j + 1)
                    simp only [if_neg (show ¬ j + 1 ≤ j by omega)] at r1
                    clear t0 t1 t2 t3 t4 t5 t6 t7 tH hb2 HRQ HXQ HYQ HBQ
                    go_wp2_with fail
                    refine ⟨⟨j + 1, by omega, by go_num, rfl, (HR2.out.set (j + 1) _).congr fun j' _ => ?_, (Below.heap_setCell _ _ _ _ (by show wr.heap.size ≠ w.heap.size; omega)).trans HX2.out, HB2.out.setCell (p := ⟨w.heap.size, j + 1, none⟩) (Nat.le_refl _) _⟩, by simp [intOf]; try omega⟩
                    by_cases h1 : j' = j + 1
                    · rw [if_pos h1, h1, if_pos (Nat.le_refl _), HEQ.out]
                      refine congrArg (Value.int .i64) ?_
                      have hv := HV.out
                      split <;> omega
                    · rw [if_neg h1]
                      by_cases h2 : j' ≤ j
                      · rw [if_pos h2, if_pos (by omega)]
                      · rw [if_neg h2, if_neg (by omega)]
                · have hc' : costOk ⟨xk, xt, xd⟩ ⟨yk, yt, yd⟩ = false := by simpa using hc
                  have HEQ := Lib.hid (HNO.out hc')
                  clear hc
                  go_wp2_with fail
                  generalize wz.alloc (.cells #[.int .i64 yk, .string yt, .int .i64 yd] 23) = wq at HRQ HXQ HYQ HBQ r0 r1 hl0 hl1 hl2
                  obtain ⟨x0, x1, x2⟩ := tbox HXQ.out
                  obtain ⟨y0, y1, y2⟩ := tbox HYQ.out
                  have KP : Hid (∀ X X' : World, Below X.heap.size X X' → (X.cell? ⟨w.heap.size, j, none⟩ = some (.int .i64 (Pf a b (k + 1) j)) ∧ X.cell? ⟨w.heap.size, j + 1, none⟩ = some (.int .i64 (Pf a b k (j + 1))) ∧ X.cell? ⟨wr.heap.size, 0, none⟩ = some (.int .i64 xk) ∧ X.cell? ⟨wr.heap.size, 1, none⟩ = some (.string xt) ∧ X.cell? ⟨wr.heap.size, 2, none⟩ = some (.int .i64 xd) ∧ X.cell? ⟨wz.heap.size, 0, none⟩ = some (.int .i64 yk) ∧ X.cell? ⟨wz.heap.size, 1, none⟩ = some (.string yt) ∧ X.cell? ⟨wz.heap.size, 2, none⟩ = some (.int .i64 yd) ∧ Hid (Below wq.heap.size wq X ∧ w.heap.size < wq.heap.size ∧ wr.heap.size < wq.heap.size ∧ wz.heap.size < wq.heap.size)) → (X'.cell? ⟨w.heap.size, j, none⟩ = some (.int .i64 (Pf a b (k + 1) j)) ∧ X'.cell? ⟨w.heap.size, j + 1, none⟩ = some (.int .i64 (Pf a b k (j + 1))) ∧ X'.cell? ⟨wr.heap.size, 0, none⟩ = some (.int .i64 xk) ∧ X'.cell? ⟨wr.heap.size, 1, none⟩ = some (.string xt) ∧ X'.cell? ⟨wr.heap.size, 2, none⟩ = some (.int .i64 xd) ∧ X'.cell? ⟨wz.heap.size, 0, none⟩ = some (.int .i64 yk) ∧ X'.cell? ⟨wz.heap.size, 1, none⟩ = some (.string yt) ∧ X'.cell? ⟨wz.heap.size, 2, none⟩ = some (.int .i64 yd) ∧ Hid (Below wq.heap.size wq X' ∧ w.heap.size < wq.heap.size ∧ wr.heap.size < wq.heap.size ∧ wz.heap.size < wq.heap.size))) := by
                    rintro X X' hb ⟨q0, q1, q2, q3, q4, q5, q6, q7, hH⟩
                    obtain ⟨hB, l0, l1, l2⟩ := hH.out
                    have hsz := hB.size
                    exact ⟨(hb.cell (p := ⟨w.heap.size, j, none⟩) (Nat.lt_of_lt_of_le l0 hsz)).trans q0, (hb.cell (p := ⟨w.heap.size, j + 1, none⟩) (Nat.lt_of_lt_of_le l0 hsz)).trans q1, (hb.cell (p := ⟨wr.heap.size, 0, none⟩) (Nat.lt_of_lt_of_le l1 hsz)).trans q2, (hb.cell (p := ⟨wr.heap.size, 1, none⟩) (Nat.lt_of_lt_of_le l1 hsz)).trans q3, (hb.cell (p := ⟨wr.heap.size, 2, none⟩) (Nat.lt_of_lt_of_le l1 hsz)).trans q4, (hb.cell (p := ⟨wz.heap.size, 0, none⟩) (Nat.lt_of_lt_of_le l2 hsz)).trans q5, (hb.cell (p := ⟨wz.heap.size, 1, none⟩) (Nat.lt_of_lt_of_le l2 hsz)).trans q6, (hb.cell (p := ⟨wz.heap.size, 2, none⟩) (Nat.lt_of_lt_of_le l2 hsz)).trans q7, ⟨hB.trans (hb.mono hsz), l0, l1, l2⟩⟩
                  have KD : Hid (∀ X : World, (X.cell? ⟨w.heap.size, j, none⟩ = some (.int .i64 (Pf a b (k + 1) j)) ∧ X.cell? ⟨w.heap.size, j + 1, none⟩ = some (.int .i64 (Pf a b k (j + 1))) ∧ X.cell? ⟨wr.heap.size, 0, none⟩ = some (.int .i64 xk) ∧ X.cell? ⟨wr.heap.size, 1, none⟩ = some (.string xt) ∧ X.cell? ⟨wr.heap.size, 2, none⟩ = some (.int .i64 xd) ∧ X.cell? ⟨wz.heap.size, 0, none⟩ = some (.int .i64 yk) ∧ X.cell? ⟨wz.heap.size, 1, none⟩ = some (.string yt) ∧ X.cell? ⟨wz.heap.size, 2, none⟩ = some (.int .i64 yd) ∧ Hid (Below wq.heap.size wq X ∧ w.heap.size < wq.heap.size ∧ wr.heap.size < wq.heap.size ∧ wz.heap.size < wq.heap.size)) → (X.drew.cell? ⟨w.heap.size, j, none⟩ = some (.int .i64 (Pf a b (k + 1) j)) ∧ X.drew.cell? ⟨w.heap.size, j + 1, none⟩ = some (.int .i64 (Pf a b k (j + 1))) ∧ X.drew.cell? ⟨wr.heap.size, 0, none⟩ = some (.int .i64 xk) ∧ X.drew.cell? ⟨wr.heap.size, 1, none⟩ = some (.string xt) ∧ X.drew.cell? ⟨wr.heap.size, 2, none⟩ = some (.int .i64 xd) ∧ X.drew.cell? ⟨wz.heap.size, 0, none⟩ = some (.int .i64 yk) ∧ X.drew.cell? ⟨wz.heap.size, 1, none⟩ = some (.string yt) ∧ X.drew.cell? ⟨wz.heap.size, 2, none⟩ = some (.int .i64 yd) ∧ Hid (Below wq.heap.size wq X.drew ∧ w.heap.size < wq.heap.size ∧ wr.heap.size < wq.heap.size ∧ wz.heap.size < wq.heap.size))) := by
                    rintro X ⟨q0, q1, q2, q3, q4, q5, q6, q7, hH⟩
                    exact ⟨q0, q1, q2, q3, q4, q5, q6, q7, ⟨below_drewN hH.out.1 1, hH.out.2⟩⟩
                  have K0 : Hid (wq.cell? ⟨w.heap.size, j, none⟩ = some (.int .i64 (Pf a b (k + 1) j)) ∧ wq.cell? ⟨w.heap.size, j + 1, none⟩ = some (.int .i64 (Pf a b k (j + 1))) ∧ wq.cell? ⟨wr.heap.size, 0, none⟩ = some (.int .i64 xk) ∧ wq.cell? ⟨wr.heap.size, 1, none⟩ = some (.string xt) ∧ wq.cell? ⟨wr.heap.size, 2, none⟩ = some (.int .i64 xd) ∧ wq.cell? ⟨wz.heap.size, 0, none⟩ = some (.int .i64 yk) ∧ wq.cell? ⟨wz.heap.size, 1, none⟩ = some (.string yt) ∧ wq.cell? ⟨wz.heap.size, 2, none⟩ = some (.int .i64 yd) ∧ Hid (Below wq.heap.size wq wq ∧ w.heap.size < wq.heap.size ∧ wr.heap.size < wq.heap.size ∧ wz.heap.size < wq.heap.size)) := ⟨(r0), (r1), (x0), (x1), (x2), (y0), (y1), (y2), ⟨Below.refl _ _, (hl0), (hl1), (hl2)⟩⟩
                  go_region_held3 (fun w' => w'.cell? ⟨w.heap.size, j, none⟩ = some (.int .i64 (Pf a b (k + 1) j)) ∧ w'.cell? ⟨w.heap.size, j + 1, none⟩ = some (.int .i64 (Pf a b k (j + 1))) ∧ w'.cell? ⟨wr.heap.size, 0, none⟩ = some (.int .i64 xk) ∧ w'.cell? ⟨wr.heap.size, 1, none⟩ = some (.string xt) ∧ w'.cell? ⟨wr.heap.size, 2, none⟩ = some (.int .i64 xd) ∧ w'.cell? ⟨wz.heap.size, 0, none⟩ = some (.int .i64 yk) ∧ w'.cell? ⟨wz.heap.size, 1, none⟩ = some (.string yt) ∧ w'.cell? ⟨wz.heap.size, 2, none⟩ = some (.int .i64 yd) ∧ Hid (Below wq.heap.size wq w' ∧ w.heap.size < wq.heap.size ∧ wr.heap.size < wq.heap.size ∧ wz.heap.size < wq.heap.size))
                    (first | exact K0.out | exact KD.out _ K0.out | assumption | exact KP.out _ _ hb' (KD.out _ K0.out) | (refine KP.out _ _ hb' ?_; with_reducible_and_instances assumption) | (refine KD.out _ ?_; with_reducible_and_instances assumption))
                    (first
                      | (go_at_call 38; refine (single_any _ _ _ _).mono ?_; rintro e w' ⟨rfl, hb'⟩))
                  rename_i hh
                  obtain ⟨t0, t1, t2, t3, t4, t5, t6, t7, tH⟩ := hh
                  clear KP KD K0
                  have hzw := tH.out.1.size
                  clear r0 r1 x0 x1 x2 y0 y1 y2 e6 e7
                  go_wp2_with fail
                  all_goals
                    refine (cost_any xk xd yk yd xt yt _ hxt hyt).mono ?_
                    rintro e w2 ⟨rfl, hb2⟩
                    have hz2 := hb2.size
                    have HR2 := Lib.hid ((HRQ.out.of_block (tH.out.1.block _ hl0)).of_block (hb2.block _ (by omega)))
                    have HX2 := Lib.hid ((hb2.block wr.heap.size (by omega)).trans ((tH.out.1.block _ hl1).trans HXQ.out))
                    have HB2 := Lib.hid ((HBQ.out.trans (tH.out.1.mono (by omega))).trans (hb2.mono (by omega)))
                    have r1 := HR2.out.cell (i := j + 1) (by omega)
                    have rf := HR2.out.frozen (j + 1)
                    simp only [if_neg (show ¬ j + 1 ≤ j by omega)] at r1
                    clear t0 t1 t2 t3 t4 t5 t6 t7 tH hb2 HRQ HXQ HYQ HBQ
                    go_wp2_with fail
                    refine ⟨⟨j + 1, by omega, by go_num, rfl, (HR2.out.set (j + 1) _).congr fun j' _ => ?_, (Below.heap_setCell _ _ _ _ (by show wr.heap.size ≠ w.heap.size; omega)).trans HX2.out, HB2.out.setCell (p := ⟨w.heap.size, j + 1, none⟩) (Nat.le_refl _) _⟩, by simp [intOf]; try omega⟩
                    by_cases h1 : j' = j + 1
                    · rw [if_pos h1, h1, if_pos (Nat.le_refl _), HEQ.out]
                      refine congrArg (Value.int .i64) ?_
                      omega
                    · rw [if_neg h1]
                      by_cases h2 : j' ≤ j
                      · rw [if_pos h2, if_pos (by omega)]
                      · rw [if_neg h2, if_neg (by omega)]
              · obtain rfl : j = b.length := by omega
                have HRE := Lib.hid (HRI.out.congr (g := fun j' => .int .i64 (Pf a b (k + 1) j')) fun j' hj' => by rw [if_pos (by omega)])
                have HBE := Lib.hid HBWI.out
                clear HRI HBI HBWI
                go_wp2_with fail
                exact ⟨⟨k + 1, by omega, by go_num, HRE.out, HBE.out⟩, by simp [intOf]; try omega⟩
        · obtain rfl : k = a.length := by omega
          have r0 := HR.out.cell (i := b.length) (by omega)
          rw [Pf_end] at r0
          have hl0 := HR.out.lt
          have e5 : (b.length : Int) < (b.length : Int) + 1 := by omega
          have h1 := ed_bound a b
          have h2 := ed_nonneg a b
          have h3 := supI_bound a b
          have h4 := supI_nonneg a b
          have HA' := Lib.hid (RdE.below HA.out HBW.out (Nat.le_refl _))
          have HB' := Lib.hid (RdE.below HB.out HBW.out (Nat.le_refl _))
          have HDI : Hid (distI a b = ed a b + 2 * supI a b) := rfl
          have e6 : IntKind.i64.wrap (ed a b + 2 * supI a b) = ed a b + 2 * supI a b := by rw [IntKind.wrap_i64]; omega
          have HSU := Lib.hid (fun (w : World) (h1 : RdT w (.slice A a.length c) a) (h2 : RdT w (.slice A2 b.length c2) b) => surplus_any a b _ _ w h1 h2 hla hlb HIA.out HIB.out)
          clear HR
          go_wp2_with fail
          generalize wr = wq at r0 hl0 HA' HB' HBW hsz
          have KP : Hid (∀ X X' : World, Below X.heap.size X X' → (X.cell? ⟨w.heap.size, b.length, none⟩ = some (.int .i64 (ed a b)) ∧ Hid (Below wq.heap.size wq X ∧ w.heap.size < wq.heap.size)) → (X'.cell? ⟨w.heap.size, b.length, none⟩ = some (.int .i64 (ed a b)) ∧ Hid (Below wq.heap.size wq X' ∧ w.heap.size < wq.heap.size))) := by
            rintro X X' hb ⟨q0, hH⟩
            obtain ⟨hB, l0⟩ := hH.out
            have hsz := hB.size
            exact ⟨(hb.cell (p := ⟨w.heap.size, b.length, none⟩) (Nat.lt_of_lt_of_le l0 hsz)).trans q0, ⟨hB.trans (hb.mono hsz), l0⟩⟩
          have KD : Hid (∀ X : World, (X.cell? ⟨w.heap.size, b.length, none⟩ = some (.int .i64 (ed a b)) ∧ Hid (Below wq.heap.size wq X ∧ w.heap.size < wq.heap.size)) → (X.drew.cell? ⟨w.heap.size, b.length, none⟩ = some (.int .i64 (ed a b)) ∧ Hid (Below wq.heap.size wq X.drew ∧ w.heap.size < wq.heap.size))) := by
            rintro X ⟨q0, hH⟩
            exact ⟨q0, ⟨below_drewN hH.out.1 1, hH.out.2⟩⟩
          have K0 : Hid (wq.cell? ⟨w.heap.size, b.length, none⟩ = some (.int .i64 (ed a b)) ∧ Hid (Below wq.heap.size wq wq ∧ w.heap.size < wq.heap.size)) := ⟨(r0), ⟨Below.refl _ _, (hl0)⟩⟩
          go_region_held3 (fun w' => w'.cell? ⟨w.heap.size, b.length, none⟩ = some (.int .i64 (ed a b)) ∧ Hid (Below wq.heap.size wq w' ∧ w.heap.size < wq.heap.size))
            (first | exact K0.out | exact KD.out _ K0.out | assumption | exact KP.out _ _ hb' (KD.out _ K0.out) | (refine KP.out _ _ hb' ?_; with_reducible_and_instances assumption) | (refine KD.out _ ?_; with_reducible_and_instances assumption))
            (first
              | (go_at_call 39; refine (HSU.out _ (by first | exact HA'.out | exact RdE.drew HA'.out) (by first | exact HB'.out | exact RdE.drew HB'.out)).mono ?_; rintro e w' ⟨rfl, hb'⟩))
          rename_i hh
          obtain ⟨t0, tH⟩ := hh
          clear KP KD K0
          have hz9 := tH.out.1.size
          go_wp2_with fail
          go_ret
          exact ⟨ret_int HDI.out.symm, HBW.out.trans (tH.out.1.mono hsz)⟩

end Go.Proofs.Yteccphcophjhpaa
