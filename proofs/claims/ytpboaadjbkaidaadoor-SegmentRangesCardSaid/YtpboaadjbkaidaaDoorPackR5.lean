/-
  Contracts and plain laws that this claim leans on, part 5.
-/
import Derived.Test.YtpboaadjbkaidaaDoorPackR4
import Derived.Test.YtpboaadjbkaidaaDoorPackR1
import Derived.Test.YtpboaadjbkaidaaDoorPackR3
import Derived.Test.YtpboaadjbkaidaaDoorPackR2
set_option linter.unusedVariables false
set_option linter.unusedSimpArgs false
namespace Go.Proofs.YtpboaadjbkaidaaDoor
set_option maxRecDepth 100000
open Go.RowKit

theorem ruC_oneA (x : RuV) : (ruC x).toArray.all (·.oneCell') = true := by
  rw [Array.all_eq_true_iff_forall_mem]
  intro v hv
  exact ruC_one x v (List.mem_toArray.1 hv)
theorem int_info6 : (Tryd.prog.info? 3).map (fun i => (i.zero, i.size, i.bytes)) = some (some (.int .i64 0), 1, 8) := by kernel_rfl
theorem intC_oneA (x : Int) : ∀ u ∈ intC x, u.oneCell' = true := by
  intro u hu
  simp [intC] at hu
  subst hu
  rfl
theorem ld_slice {w : World} {b o : Nat} {A : Option Addr} {n c : Nat} (h : w.cell? ⟨b, o, none⟩ = some (.slice A n c)) : (Instr.loadAt 28 (.pointer (some ⟨b, o, none⟩))).run Tryd.prog w = .ok (.slice A n c) w := by
  go_simp

set_option maxRecDepth 100000 in
set_option maxHeartbeats 8000000 in
theorem breaks_any (rs : List Ru) (v : Value) (s : ByteArray) (w : World) (ht : RdRu w v rs) (hl : rs.length ≤ 1000000) (hal : ∀ r ∈ rs, r.bf.length ≤ 1000000 ∧ r.af.length ≤ 1000000) :
    Calls Tryd.prog 16 #[v, .string s] w (RetOwn 3 intC 1 w (breaksF rs s)) := by
  obtain ⟨R, HRR⟩ : ∃ R, Hid (R = RetOwn 3 intC 1 w (breaksF rs s)) := ⟨_, rfl⟩
  rw [← HRR.out]
  obtain ⟨xs, hx0, hxl, hx⟩ := ht
  have hxa : xs.length ≤ rs.length := Nat.le_of_eq hxl
  have hxb : rs.length ≤ xs.length := Nat.le_of_eq hxl.symm
  clear hxl
  obtain ⟨Av, cv, rfl, hlc, _⟩ := hx0.shape
  by_cases h24 : 1024 < s.size
  · have h24i : (1024 : Int) < (s.size : Int) := by omega
    have e0 : breaksF rs s = [] := by unfold breaksF; rw [if_pos h24]
    go_enter Tryd.func16, Tryd.ntmps16
    go_wp2_with fail
    rw [HRR.out, e0]
    exact ⟨_, rfl, OwnE.nil, Below.refl _ _⟩
  have h24i : ¬ (1024 : Int) < (s.size : Int) := by omega
  have HX := Lib.hid hx0
  have HXR := Lib.hid hx
  clear hx0 hx
  have hu := Tryd.underlying30
  have hi : (Tryd.prog.info? 30).map (·.size) = some 3 := by kernel_rfl
  have hmk := fun w => run_make_row' (P := Tryd.prog) 86 4 (.bool false) 1 Tryd.underlying86 bool_info rfl .i64 .i64 (s.size + 1) (by omega) (by omega) w
  rw [show ((s.size + 1 : Nat) : Int) = (s.size : Int) + 1 by omega] at hmk
  have HRV := Lib.hid (reversed_any s w (by omega))
  have hbks : (rvS s s.size).size = s.size := rv_size s
  have HBT : Hid (∀ j, j < s.size → bt (rvS s s.size) j = bt s (s.size - 1 - j)) := rv_bt s
  generalize rvS s s.size = bk at HRV hbks HBT
  go_enter Tryd.func16, Tryd.ntmps16
  go_upto_region 4 with (go_at_call 49; refine HRV.out.mono ?_; rintro e w1 ⟨rfl, hb1⟩)
  have HB1 := Lib.hid hb1
  have HD1 : Hid ((w1.alloc (.cells (madeCells #[.bool false] (s.size + 1)) 4)).rowIs w1.heap.size 4 (s.size + 1) (fun j => .bool (false))) := World.rowIs_made w1 (.bool false) (s.size + 1) 4
  have HB2 := Lib.hid (HB1.out.alloc HB1.out.size (.cells (madeCells #[.bool false] (s.size + 1)) 4))
  clear hb1 HRV
  go_upto_region 5 with fail
  have hz1 := HB1.out.size
  generalize w1.heap.size = D at HD1 hz1 ⊢
  generalize w1.alloc (.cells (madeCells #[.bool false] (s.size + 1)) 4) = w2 at HD1 HB2 ⊢
  have HK1 : Hid ((w2.alloc (.cells (madeCells #[.bool false] (s.size + 1)) 4)).rowIs w2.heap.size 4 (s.size + 1) (fun j => .bool (false))) := World.rowIs_made w2 (.bool false) (s.size + 1) 4
  have HB3 := Lib.hid (HB2.out.alloc HB2.out.size (.cells (madeCells #[.bool false] (s.size + 1)) 4))
  have HD2 := Lib.hid (HD1.out.of_block (w' := w2.alloc (.cells (madeCells #[.bool false] (s.size + 1)) 4)) (Below.heap_alloc w2 _ D HD1.out.lt))
  have hDK : D < w2.heap.size := HD1.out.lt
  go_upto_region 6 with fail
  clear HD1 HB2 HB1
  generalize w2.heap.size = K at HK1 hDK ⊢
  generalize w2.alloc (.cells (madeCells #[.bool false] (s.size + 1)) 4) = w3 at HK1 HD2 HB3 ⊢
  go_wp2_with fail
  obtain ⟨wo, HWO⟩ : ∃ wo, Hid (wo = w3) := ⟨w3, rfl⟩
  go_loopg [31] xs.length (fun gk kv wr => ∃ k : Nat, kv = .int .i64 k ∧ k ≤ xs.length ∧ Hid (wr.rowIs D 4 (s.size + 1) (fun j => .bool (decide (0 < j ∧ j < s.size) && foundF (rs.take k) s j))) ∧ Hid (wr.rowIs K 4 (s.size + 1) (fun j => .bool (decide (0 < j ∧ j < s.size) && decideF (rs.take k) s j))) ∧ Hid (Below w.heap.size w wr) ∧ xs.length - k ≤ gk)
  case atStart => exact ⟨0, rfl, by omega, HD2.out.congr (fun j _ => by rw [List.take_zero]; show _ = Value.bool (_ && false); rw [Bool.and_false]), HK1.out.congr (fun j _ => by rw [List.take_zero]; show _ = Value.bool (_ && false); rw [Bool.and_false]), HB3.out, by omega⟩
  case round =>
    clear HD2 HK1 HB3 HWO
    obtain ⟨k, rfl, hk, HD, HK, HB, hgk⟩ := hrel
    by_cases hkl : k < xs.length
    · have hki : (k : Int) < (xs.length : Int) := by omega
      have hk0 : (0 : Int) ≤ (k : Int) := by omega
      obtain ⟨bp, o, rfl, hbl, hcell⟩ := HX.out.cells (by omega)
      have hxk : xs[k]? = some xs[k] := List.getElem?_eq_getElem hkl
      have hrk : rs[k]? = some (rs[k]'(by omega)) := List.getElem?_eq_getElem (by omega)
      have hrg : wr.rangeAt bp (o + k * 3) (ruC xs[k]) := fun j v hj => by
        rw [Nat.add_assoc]
        exact (HB.out.cell (p := ⟨bp, o + (k * 3 + j), none⟩) hbl).trans (hcell k _ j v hxk hj)
      obtain ⟨hbr, hbf, haf⟩ := HXR.out k _ _ hxk hrk
      have HTK : Hid (rs.take (k + 1) = rs.take k ++ [rs[k]'(by omega)]) := List.take_succ_eq_append_getElem (by omega)
      have hrl : (rs[k]'(by omega)).bf.length ≤ 140737488355328 ∧ (rs[k]'(by omega)).af.length ≤ 140737488355 := by have := hal _ (List.getElem_mem (show k < rs.length by omega)); omega
      have HU1 := Lib.hid (hbf.below HB.out (Nat.le_refl _))
      have HT1 := Lib.hid (haf.below HB.out (Nat.le_refl _))
      clear hcell hxk hrk hbf haf
      generalize xs[k] = y at hrg hbr HU1 HT1
      generalize rs[k]'(by omega) = r at hbr HU1 HT1 HTK hrl
      obtain ⟨yb, ⟨uA, un, uc⟩, ⟨tA, tn, tc⟩⟩ := y
      obtain rfl : yb = r.br := hbr
      have hz := HB.out.size
      have hz2 := HB.out.size
      have hq1 : bp < wr.heap.size := Nat.lt_of_lt_of_le hbl hz2
      have HQ : Hid (((wr.alloc (.cells #[.bool false, .slice none 0 0, .slice none 0 0] 30)).setRow wr.heap.size (ruC ⟨r.br, ⟨uA, un, uc⟩, ⟨tA, tn, tc⟩⟩).toArray).heap[wr.heap.size]? = some (.cells (ruC ⟨r.br, ⟨uA, un, uc⟩, ⟨tA, tn, tc⟩⟩).toArray 30)) := setRow_heap _ _ _ _ _ _ (heap_alloc_new wr _)
      have HB4 : Hid (Below w.heap.size w ((wr.alloc (.cells #[.bool false, .slice none 0 0, .slice none 0 0] 30)).setRow wr.heap.size (ruC ⟨r.br, ⟨uA, un, uc⟩, ⟨tA, tn, tc⟩⟩).toArray)) := below_setRow (HB.out.alloc hz _) hz _
      have HN4 : Hid (Below wr.heap.size wr ((wr.alloc (.cells #[.bool false, .slice none 0 0, .slice none 0 0] 30)).setRow wr.heap.size (ruC ⟨r.br, ⟨uA, un, uc⟩, ⟨tA, tn, tc⟩⟩).toArray)) := below_setRow ((Below.refl _ wr).alloc (Nat.le_refl _) _) (Nat.le_refl _) _
      go_upto_region 9 with (first
        | (refine wpList_load_mid rfl 30 (.tmp 33) rfl bp (o + k * 3) rfl (ruC ⟨r.br, ⟨uA, un, uc⟩, ⟨tA, tn, tc⟩⟩) _ hrg hu rfl (by rw [hi]; rfl) ?_)
        | (refine wpList_store_row rfl 30 (.tmp 9) (.tmp 34) rfl (wr.heap.size) (ruC ⟨r.br, ⟨uA, un, uc⟩, ⟨tA, tn, tc⟩⟩).toArray rfl rfl 30 _ (heap_alloc_new wr _) (by rw [hi]; rfl) rfl (ruC_oneA _) ?_))
      have HD4 := Lib.hid (HD.out.of_block (w' := (wr.alloc (.cells #[.bool false, .slice none 0 0, .slice none 0 0] 30)).setRow wr.heap.size (ruC ⟨r.br, ⟨uA, un, uc⟩, ⟨tA, tn, tc⟩⟩).toArray) (HN4.out.block _ HD.out.lt))
      have HK4 := Lib.hid (HK.out.of_block (w' := (wr.alloc (.cells #[.bool false, .slice none 0 0, .slice none 0 0] 30)).setRow wr.heap.size (ruC ⟨r.br, ⟨uA, un, uc⟩, ⟨tA, tn, tc⟩⟩).toArray) (HN4.out.block _ HK.out.lt))
      have HU4 := Lib.hid (HU1.out.below HN4.out (Nat.le_refl _))
      have HT4 := Lib.hid (HT1.out.below HN4.out (Nat.le_refl _))
      have hDq : D < wr.heap.size := HD.out.lt
      have hKq : K < wr.heap.size := HK.out.lt
      have hq4 : wr.heap.size < ((wr.alloc (.cells #[.bool false, .slice none 0 0, .slice none 0 0] 30)).setRow wr.heap.size (ruC ⟨r.br, ⟨uA, un, uc⟩, ⟨tA, tn, tc⟩⟩).toArray).heap.size := (Array.getElem?_eq_some_iff.1 HQ.out).1
      clear HD HK HB HN4 HU1 HT1 hrg hz hz2 hq1
      generalize wr.heap.size = q at HQ HB4 HD4 HK4 HU4 HT4 hDq hKq hq4 ⊢
      generalize (wr.alloc (.cells #[.bool false, .slice none 0 0, .slice none 0 0] 30)).setRow q (ruC ⟨r.br, ⟨uA, un, uc⟩, ⟨tA, tn, tc⟩⟩).toArray = wr4 at HQ HB4 HD4 HK4 HU4 HT4 hq4 ⊢
      change Hid (RdE atC 34 wr4 (.slice uA un uc) r.bf) at HU4
      change Hid (RdE atC 34 wr4 (.slice tA tn tc) r.af) at HT4
      have z0 : wr4.cell? ⟨q, 0, none⟩ = some (.bool r.br) := by rw [cell_of_row _ _ _ _ _ _ HQ.out]; rfl
      have z1 : wr4.cell? ⟨q, 1, none⟩ = some (.slice uA un uc) := by rw [cell_of_row _ _ _ _ _ _ HQ.out]; rfl
      have z2 : wr4.cell? ⟨q, 2, none⟩ = some (.slice tA tn tc) := by rw [cell_of_row _ _ _ _ _ _ HQ.out]; rfl
      have HL1 : Hid ((Instr.loadAt 28 (.pointer (some ⟨q, 1, none⟩))).run Tryd.prog wr4.drew = .ok (.slice uA un uc) wr4.drew) := ld_slice z1
      have HL2 : Hid ((Instr.loadAt 28 (.pointer (some ⟨q, 2, none⟩))).run Tryd.prog wr4.drew = .ok (.slice tA tn tc) wr4.drew) := ld_slice z2
      obtain ⟨hbl0, hal0⟩ := hrl
      refine wp_region_at 11 #[false, false, false, false, false, false, false, false, false, false, false] rfl rfl (by kernel_rfl) ?_
      refine wpAny_at (i := 0) (v := .pointer (some ⟨q, 1, none⟩)) (some 35) rfl rfl (by kernel_rfl) (by kernel_rfl) (by kernel_rfl) (fun _ _ _ h => h) (by kernel_rfl) (fun _ => ex_fieldAddr 30 _ 1 (.pointer (some ⟨q, 0, none⟩)) _ rfl (by kernel_rfl) (by go_simp)) ?_
      simp only [Act.put, List.setIfInBounds_toArray, List.set_cons_zero, List.set_cons_succ]
      refine wpAny_at (i := 2) (v := .string s) (some 37) rfl rfl (by kernel_rfl) (by kernel_rfl) (by kernel_rfl) (fun _ _ _ h => h) (by kernel_rfl) (fun _ => ex_move _ _ rfl (by kernel_rfl)) ?_
      simp only [Act.put, List.setIfInBounds_toArray, List.set_cons_zero, List.set_cons_succ]
      refine wpAny_at (i := 4) (v := .pointer (some ⟨q, 2, none⟩)) (some 39) rfl rfl (by kernel_rfl) (by kernel_rfl) (by kernel_rfl) (fun _ _ _ h => h) (by kernel_rfl) (fun _ => ex_fieldAddr 30 _ 2 (.pointer (some ⟨q, 0, none⟩)) _ rfl (by kernel_rfl) (by go_simp)) ?_
      simp only [Act.put, List.setIfInBounds_toArray, List.set_cons_zero, List.set_cons_succ]
      refine wpAny_at (i := 7) (v := .string bk) (some 42) rfl rfl (by kernel_rfl) (by kernel_rfl) (by kernel_rfl) (fun _ _ _ h => h) (by kernel_rfl) (fun _ => ex_move _ _ rfl (by kernel_rfl)) ?_
      simp only [Act.put, List.setIfInBounds_toArray, List.set_cons_zero, List.set_cons_succ]
      refine wpAny_vals 1 5 (some 36) (some 40) (.slice uA un uc) (.slice tA tn tc) (by kernel_rfl) rfl rfl rfl rfl (by kernel_rfl) (by kernel_rfl) (ex_load 28 _ (.pointer (some ⟨q, 1, none⟩)) _ rfl (by kernel_rfl) (HL1.out)) (ex_load 28 _ (.pointer (some ⟨q, 2, none⟩)) _ rfl (by kernel_rfl) (HL2.out)) ?_ ?_
      · simp only [Act.put, List.setIfInBounds_toArray, List.set_cons_zero, List.set_cons_succ]
        refine wpAny_callval 3 5 (some 38) (some 40) (.slice tA tn tc) (by kernel_rfl) rfl rfl rfl rfl (by kernel_rfl) (by kernel_rfl) 50 (#[.slice uA un uc, .string s]) (by go_simp) (ends_any r.bf s _ wr4.drew HU4.out (by omega) hbl0) (ex_load 28 _ (.pointer (some ⟨q, 2, none⟩)) _ rfl (by kernel_rfl) (HL2.out)) ?_ ?_
        · rintro e w5 ⟨g1, rfl, hg1, hr1, hb5⟩
          refine ⟨_, rfl, ?_⟩
          have HL3 : Hid (∀ w', w'.heap = w5.heap → (Instr.loadAt 28 (.pointer (some ⟨q, 2, none⟩))).run Tryd.prog w' = .ok (.slice tA tn tc) w') := fun w' hw' => ld_slice (by rw [World.cell?_of_block (w := w5) (by rw [hw'])]; exact (hb5.cell (p := ⟨q, 2, none⟩) hq4).trans z2)
          change wpAny _ _ _ _ _ _ (Act.put _ (some 38) _) _
          simp only [Act.put, List.setIfInBounds_toArray, List.set_cons_zero, List.set_cons_succ]
          refine wpAny_val 5 (some 40) (.slice tA tn tc) (by kernel_rfl) rfl rfl (by kernel_rfl) (ex_load 28 _ (.pointer (some ⟨q, 2, none⟩)) _ rfl (by kernel_rfl) (HL3.out _ rfl)) ?_
          simp only [Act.put, List.setIfInBounds_toArray, List.set_cons_zero, List.set_cons_succ]
          refine wpAny_call 6 (some 41) (by kernel_rfl) rfl rfl (by kernel_rfl) 51 (#[.slice tA tn tc]) (by go_simp) (revp_any r.af _ w5 ((show RdE atC 34 wr4.drew _ _ from HT4.out).below hb5 (Nat.le_refl _)) hal0) ?_
          rintro e w6 ⟨v6, rfl, hr6, hb6⟩
          refine ⟨_, rfl, ?_⟩
          change wpAny _ _ _ _ _ _ (Act.put _ (some 41) _) _
          simp only [Act.put, List.setIfInBounds_toArray, List.set_cons_zero, List.set_cons_succ]
          refine wpAny_call 8 (some 43) (by kernel_rfl) rfl rfl (by kernel_rfl) 50 (#[v6, .string bk]) (by go_simp) (ends_any r.af.reverse bk v6 w6 hr6 (by omega) (by simp; omega)) ?_
          rintro e w7 ⟨g2, rfl, hg2, hr2, hb7⟩
          refine ⟨_, rfl, ?_⟩
          rw [hbks]
          change wpAny _ _ _ _ _ _ (Act.put _ (some 43) _) _
          simp only [Act.put, List.setIfInBounds_toArray, List.set_cons_zero, List.set_cons_succ]
          refine wpAny_at (i := 9) (v := .slice (some ⟨g1, 0, none⟩) (s.size + 1) (s.size + 1)) (some 10) rfl rfl (by kernel_rfl) (by kernel_rfl) (by kernel_rfl) (fun _ _ _ h => h) (by kernel_rfl) (fun _ => ex_assign _ _ rfl (by kernel_rfl)) ?_
          simp only [Act.put, List.setIfInBounds_toArray, List.set_cons_zero, List.set_cons_succ]
          refine wpAny_at (i := 10) (v := .slice (some ⟨g2, 0, none⟩) (s.size + 1) (s.size + 1)) (some 11) rfl rfl (by kernel_rfl) (by kernel_rfl) (by kernel_rfl) (fun _ _ _ h => h) (by kernel_rfl) (fun _ => ex_assign _ _ rfl (by kernel_rfl)) ?_
          simp only [Act.put, List.setIfInBounds_toArray, List.set_cons_zero, List.set_cons_succ]
          refine wpAny_done (by kernel_rfl) ?_ _
          rw [hbks] at hr2
          have HG1 : Hid (w7.rowIs g1 4 (s.size + 1) (fun j => .bool (reachF s r.bf allF j))) := (hr1.of_block (hb6.block _ hr1.lt)).of_block (hb7.block _ (hr1.of_block (hb6.block _ hr1.lt)).lt)
          have HG2 : Hid (w7.rowIs g2 4 (s.size + 1) (fun j => .bool (reachF bk r.af.reverse allF j))) := hr2
          have HBq : Hid (Below wr4.heap.size wr4 w7) := ((below_drewN (Below.refl _ wr4) 1).trans hb5).trans ((hb6.trans (hb7.mono hb6.size)).mono hb5.size)
          have HD7 := Lib.hid (HD4.out.of_block (HBq.out.block _ HD4.out.lt))
          have HK7 := Lib.hid (HK4.out.of_block (HBq.out.block _ HK4.out.lt))
          have HB7 := Lib.hid (HB4.out.trans (HBq.out.mono HB4.out.size))
          have z0w := (HBq.out.cell (p := ⟨q, 0, none⟩) hq4).trans z0
          have hg1q : q < g1 := Nat.lt_of_lt_of_le hq4 hg1
          have hg2q : q < g2 := Nat.lt_of_lt_of_le hq4 (Nat.le_trans (Nat.le_trans hb5.size hb6.size) hg2)
          clear hr1 hr2 hb5 hb6 hb7 HL3 hr6 HBq z0 z1 z2 HL1 HL2 HD4 HK4 HB4 HU4 HT4 HQ hq4
          go_wp2_with fail
          obtain ⟨wo2, HWO2⟩ : ∃ wo, Hid (wo = w7) := ⟨w7, rfl⟩
          go_loopg [12] (s.size + 1) (fun gk iv wr => ∃ i : Nat, iv = .int .i64 i ∧ 1 ≤ i ∧ i ≤ s.size + 1 ∧ Hid (wr.rowIs D 4 (s.size + 1) (fun j => .bool (if j < i then decide (0 < j ∧ j < s.size) && foundF (rs.take (k + 1)) s j else decide (0 < j ∧ j < s.size) && foundF (rs.take k) s j))) ∧ Hid (wr.rowIs K 4 (s.size + 1) (fun j => .bool (if j < i then decide (0 < j ∧ j < s.size) && decideF (rs.take (k + 1)) s j else decide (0 < j ∧ j < s.size) && decideF (rs.take k) s j))) ∧ Hid (wr.rowIs g1 4 (s.size + 1) (fun j => .bool (reachF s r.bf allF j))) ∧ Hid (wr.rowIs g2 4 (s.size + 1) (fun j => .bool (reachF bk r.af.reverse allF j))) ∧ wr.cell? ⟨q, 0, none⟩ = some (.bool r.br) ∧ Hid (Below w.heap.size w wr) ∧ s.size + 1 - i ≤ gk)
          case atStart => exact ⟨1, rfl, Nat.le_refl _, by omega, HD7.out.congr (fun j _ => by
              by_cases h : j < 1
              · rw [if_pos h, show j = 0 by omega]; rfl
              · rw [if_neg h]), HK7.out.congr (fun j _ => by
              by_cases h : j < 1
              · rw [if_pos h, show j = 0 by omega]; rfl
              · rw [if_neg h]), HG1.out, HG2.out, z0w, HB7.out, by omega⟩
          case round =>
            clear HD7 HK7 HG1 HG2 z0w HB7 HWO2
            obtain ⟨i, rfl, hi1, hi2, HDi, HKi, HG1i, HG2i, z0i, HBi, hgki⟩ := hrel
            by_cases hil : i < s.size
            · have hii : (i : Int) < (s.size : Int) := by omega
              have hi0 : (0 : Int) ≤ (i : Int) := by omega
              have hi3 : (i : Int) < (s.size : Int) + 1 := by omega
              obtain ⟨t, ht⟩ : ∃ t, t + i = s.size := ⟨s.size - i, by omega⟩
              have hsub : (s.size : Int) - (i : Int) = (t : Int) := by omega
              have ht0 : (0 : Int) ≤ (t : Int) := by omega
              have ht1 : (t : Int) < (s.size : Int) + 1 := by omega
              have qd := HDi.out.cell (i := i) (by omega)
              rw [if_neg (Nat.lt_irrefl i), decide_eq_true ⟨hi1, hil⟩, Bool.true_and] at qd
              have qk := HKi.out.cell (i := i) (by omega)
              have qb := HG1i.out.cell (i := i) (by omega)
              rw [ends_suf r.bf s i (by omega)] at qb
              have qa := HG2i.out.cell (i := t) (by omega)
              rw [show t = s.size - i by omega, ends_pre r.af hbks HBT.out i (by omega), show s.size - i = t by omega] at qa
              have hnd : foundF (rs.take (k + 1)) s i = (foundF (rs.take k) s i || (suffixF r.bf (s.extract 0 i) && prefixF r.af (s.extract i s.size))) := by rw [HTK.out, found_snoc]; rfl
              have hnk : decideF (rs.take (k + 1)) s i = if foundF (rs.take k) s i = true then decideF (rs.take k) s i else ((suffixF r.bf (s.extract 0 i) && prefixF r.af (s.extract i s.size)) && r.br) := by rw [HTK.out, decide_snoc]; rfl
              have hno := decide_none (rs.take k) s i
              cases hfd : foundF (rs.take k) s i with
              | true =>
                rw [hfd] at qd
                have hnew1 : (decide (0 < i ∧ i < s.size) && foundF (rs.take (k + 1)) s i) = (decide (0 < i ∧ i < s.size) && foundF (rs.take k) s i) := by rw [hnd, hfd]; rfl
                have hnew2 : (decide (0 < i ∧ i < s.size) && decideF (rs.take (k + 1)) s i) = (decide (0 < i ∧ i < s.size) && decideF (rs.take k) s i) := by rw [hnk, if_pos hfd]
                clear hnd hnk hno
                have HDN : Hid (wr.rowIs D 4 (s.size + 1) (fun j => .bool (if j < i + 1 then decide (0 < j ∧ j < s.size) && foundF (rs.take (k + 1)) s j else decide (0 < j ∧ j < s.size) && foundF (rs.take k) s j))) := HDi.out.congr fun j hj => by
                  by_cases h : j = i
                  · rw [if_neg (by omega), if_pos (by omega), h, hnew1]
                  · by_cases h2 : j < i
                    · rw [if_pos h2, if_pos (by omega)]
                    · rw [if_neg h2, if_neg (by omega)]
                have HKN : Hid (wr.rowIs K 4 (s.size + 1) (fun j => .bool (if j < i + 1 then decide (0 < j ∧ j < s.size) && decideF (rs.take (k + 1)) s j else decide (0 < j ∧ j < s.size) && decideF (rs.take k) s j))) := HKi.out.congr fun j hj => by
                  by_cases h : j = i
                  · rw [if_neg (by omega), if_pos (by omega), h, hnew2]
                  · by_cases h2 : j < i
                    · rw [if_pos h2, if_pos (by omega)]
                    · rw [if_neg h2, if_neg (by omega)]
                clear hnew1 hnew2
                go_wp2_with fail
                go_roundg (s.size + 1 - (i + 1))
                case measure => omega
                case rel => exact ⟨i + 1, by go_num, by omega, by omega, HDN.out, HKN.out, HG1i.out, HG2i.out, z0i, HBi.out, Nat.le_refl _⟩
              | false =>
                rw [hfd] at qd
                cases hsb : suffixF r.bf (s.extract 0 i) with
                | false =>
                  rw [hsb] at qb
                  have hnew1 : (decide (0 < i ∧ i < s.size) && foundF (rs.take (k + 1)) s i) = (decide (0 < i ∧ i < s.size) && foundF (rs.take k) s i) := by rw [hnd, hfd, hsb]; rfl
                  have hnew2 : (decide (0 < i ∧ i < s.size) && decideF (rs.take (k + 1)) s i) = (decide (0 < i ∧ i < s.size) && decideF (rs.take k) s i) := by rw [hnk, if_neg (by rw [hfd]; exact Bool.false_ne_true), hsb, hno hfd]; rfl
                  clear hnd hnk hno
                  have HDN : Hid (wr.rowIs D 4 (s.size + 1) (fun j => .bool (if j < i + 1 then decide (0 < j ∧ j < s.size) && foundF (rs.take (k + 1)) s j else decide (0 < j ∧ j < s.size) && foundF (rs.take k) s j))) := HDi.out.congr fun j hj => by
                    by_cases h : j = i
                    · rw [if_neg (by omega), if_pos (by omega), h, hnew1]
                    · by_cases h2 : j < i
                      · rw [if_pos h2, if_pos (by omega)]
                      · rw [if_neg h2, if_neg (by omega)]
                  have HKN : Hid (wr.rowIs K 4 (s.size + 1) (fun j => .bool (if j < i + 1 then decide (0 < j ∧ j < s.size) && decideF (rs.take (k + 1)) s j else decide (0 < j ∧ j < s.size) && decideF (rs.take k) s j))) := HKi.out.congr fun j hj => by
                    by_cases h : j = i
                    · rw [if_neg (by omega), if_pos (by omega), h, hnew2]
                    · by_cases h2 : j < i
                      · rw [if_pos h2, if_pos (by omega)]
                      · rw [if_neg h2, if_neg (by omega)]
                  clear hnew1 hnew2
                  go_wp2_with fail
                  go_roundg (s.size + 1 - (i + 1))
                  case measure => omega
                  case rel => exact ⟨i + 1, by go_num, by omega, by omega, HDN.out, HKN.out, HG1i.out, HG2i.out, z0i, HBi.out, Nat.le_refl _⟩
                | true =>
                  rw [hsb] at qb
                  cases hpa : prefixF r.af (s.extract i s.size) with
                  | false =>
                    rw [hpa] at qa
                    have hnew1 : (decide (0 < i ∧ i < s.size) && foundF (rs.take (k + 1)) s i) = (decide (0 < i ∧ i < s.size) && foundF (rs.take k) s i) := by rw [hnd, hfd, hsb, hpa]; rfl
                    have hnew2 : (decide (0 < i ∧ i < s.size) && decideF (rs.take (k + 1)) s i) = (decide (0 < i ∧ i < s.size) && decideF (rs.take k) s i) := by rw [hnk, if_neg (by rw [hfd]; exact Bool.false_ne_true), hsb, hpa, hno hfd]; rfl
                    clear hnd hnk hno
                    have HDN : Hid (wr.rowIs D 4 (s.size + 1) (fun j => .bool (if j < i + 1 then decide (0 < j ∧ j < s.size) && foundF (rs.take (k + 1)) s j else decide (0 < j ∧ j < s.size) && foundF (rs.take k) s j))) := HDi.out.congr fun j hj => by
                      by_cases h : j = i
                      · rw [if_neg (by omega), if_pos (by omega), h, hnew1]
                      · by_cases h2 : j < i
                        · rw [if_pos h2, if_pos (by omega)]
                        · rw [if_neg h2, if_neg (by omega)]
                    have HKN : Hid (wr.rowIs K 4 (s.size + 1) (fun j => .bool (if j < i + 1 then decide (0 < j ∧ j < s.size) && decideF (rs.take (k + 1)) s j else decide (0 < j ∧ j < s.size) && decideF (rs.take k) s j))) := HKi.out.congr fun j hj => by
                      by_cases h : j = i
                      · rw [if_neg (by omega), if_pos (by omega), h, hnew2]
                      · by_cases h2 : j < i
                        · rw [if_pos h2, if_pos (by omega)]
                        · rw [if_neg h2, if_neg (by omega)]
                    clear hnew1 hnew2
                    go_wp2_with fail
                    go_roundg (s.size + 1 - (i + 1))
                    case measure => omega
                    case rel => exact ⟨i + 1, by go_num, by omega, by omega, HDN.out, HKN.out, HG1i.out, HG2i.out, z0i, HBi.out, Nat.le_refl _⟩
                  | true =>
                    rw [hpa] at qa
                    have hnew1 : foundF (rs.take (k + 1)) s i = true := by rw [hnd, hfd, hsb, hpa]; rfl
                    have hnew2 : decideF (rs.take (k + 1)) s i = r.br := by rw [hnk, if_neg (by rw [hfd]; exact Bool.false_ne_true), hsb, hpa]; rfl
                    clear hnd hnk hno
                    have fd := HDi.out.frozen i
                    have fk := HKi.out.frozen i
                    have hne : ¬ D = K := by omega
                    have hne2 : ¬ K = D := by omega
                    have HD8 : Hid (((wr.drew.setCell ⟨D, i, none⟩ (.bool true)).setCell ⟨K, i, none⟩ (.bool r.br)).rowIs D 4 (s.size + 1) (fun j => .bool (if j < i + 1 then decide (0 < j ∧ j < s.size) && foundF (rs.take (k + 1)) s j else decide (0 < j ∧ j < s.size) && foundF (rs.take k) s j))) := ((HDi.out.drew.set i (.bool true)).of_block (Below.heap_setCell _ _ _ _ (show D ≠ K by omega))).congr fun j hj => by
                      by_cases h : j = i
                      · rw [if_pos h, if_pos (by omega), h, hnew1, decide_eq_true ⟨hi1, hil⟩]; rfl
                      · rw [if_neg h]
                        by_cases h2 : j < i
                        · rw [if_pos h2, if_pos (by omega)]
                        · rw [if_neg h2, if_neg (by omega)]
                    have HK8 : Hid (((wr.drew.setCell ⟨D, i, none⟩ (.bool true)).setCell ⟨K, i, none⟩ (.bool r.br)).rowIs K 4 (s.size + 1) (fun j => .bool (if j < i + 1 then decide (0 < j ∧ j < s.size) && decideF (rs.take (k + 1)) s j else decide (0 < j ∧ j < s.size) && decideF (rs.take k) s j))) := ((HKi.out.drew.of_block (Below.heap_setCell _ _ _ _ (show K ≠ D by omega))).set i (.bool r.br)).congr fun j hj => by
                      by_cases h : j = i
                      · rw [if_pos h, if_pos (by omega), h, hnew2, decide_eq_true ⟨hi1, hil⟩]; rfl
                      · rw [if_neg h]
                        by_cases h2 : j < i
                        · rw [if_pos h2, if_pos (by omega)]
                        · rw [if_neg h2, if_neg (by omega)]
                    have HG18 : Hid (((wr.drew.setCell ⟨D, i, none⟩ (.bool true)).setCell ⟨K, i, none⟩ (.bool r.br)).rowIs g1 4 (s.size + 1) (fun j => .bool (reachF s r.bf allF j))) := (HG1i.out.drew.of_block (Below.heap_setCell _ _ _ _ (show g1 ≠ D by omega))).of_block (Below.heap_setCell _ _ _ _ (show g1 ≠ K by omega))
                    have HG28 : Hid (((wr.drew.setCell ⟨D, i, none⟩ (.bool true)).setCell ⟨K, i, none⟩ (.bool r.br)).rowIs g2 4 (s.size + 1) (fun j => .bool (reachF bk r.af.reverse allF j))) := (HG2i.out.drew.of_block (Below.heap_setCell _ _ _ _ (show g2 ≠ D by omega))).of_block (Below.heap_setCell _ _ _ _ (show g2 ≠ K by omega))
                    have HZ8 : Hid (((wr.drew.setCell ⟨D, i, none⟩ (.bool true)).setCell ⟨K, i, none⟩ (.bool r.br)).cell? ⟨q, 0, none⟩ = some (.bool r.br)) := by
                      show _ = _
                      rw [World.cell?_of_block (w := wr.drew.setCell ⟨D, i, none⟩ (.bool true)) (Below.heap_setCell _ _ _ _ (show q ≠ K by omega)), World.cell?_of_block (w := wr.drew) (Below.heap_setCell _ _ _ _ (show q ≠ D by omega))]
                      exact z0i
                    have HB8 : Hid (Below w.heap.size w ((wr.drew.setCell ⟨D, i, none⟩ (.bool true)).setCell ⟨K, i, none⟩ (.bool r.br))) := (HBi.out.drew.setCell (p := ⟨D, i, none⟩) (show w.heap.size ≤ D by omega) _).setCell (p := ⟨K, i, none⟩) (show w.heap.size ≤ K by omega) _
                    go_upto_region 14 with fail
                    go_region
                    go_wp2_with fail
                    go_roundg (s.size + 1 - (i + 1))
                    case measure => omega
                    case rel => exact ⟨i + 1, by go_num, by omega, by omega, HD8.out, HK8.out, HG18.out, HG28.out, HZ8.out, HB8.out, Nat.le_refl _⟩
            · have hge : s.size ≤ i := by omega
              have hii : ¬ (i : Int) < (s.size : Int) := by omega
              have HDE : Hid (wr.rowIs D 4 (s.size + 1) (fun j => .bool (decide (0 < j ∧ j < s.size) && foundF (rs.take (k + 1)) s j))) := HDi.out.congr fun j hj => by
                by_cases h : j < i
                · rw [if_pos h]
                · rw [if_neg h, decide_eq_false (by omega)]; rfl
              have HKE : Hid (wr.rowIs K 4 (s.size + 1) (fun j => .bool (decide (0 < j ∧ j < s.size) && decideF (rs.take (k + 1)) s j))) := HKi.out.congr fun j hj => by
                by_cases h : j < i
                · rw [if_pos h]
                · rw [if_neg h, decide_eq_false (by omega)]; rfl
              go_wp2_with fail
              go_roundg (xs.length - (k + 1))
              case measure => omega
              case rel => exact ⟨k + 1, by go_num, by omega, HDE.out, HKE.out, HBi.out, Nat.le_refl _⟩
        · simp only [Act.put, List.setIfInBounds_toArray, List.set_cons_zero, List.set_cons_succ]
          refine wpAny_call 3 (some 38) (by kernel_rfl) rfl rfl (by kernel_rfl) 50 (#[.slice uA un uc, .string s]) (by go_simp) (ends_any r.bf s _ wr4.drew HU4.out (by omega) hbl0) ?_
          rintro e w5 ⟨g1, rfl, hg1, hr1, hb5⟩
          refine ⟨_, rfl, ?_⟩
          have HL3 : Hid (∀ w', w'.heap = w5.heap → (Instr.loadAt 28 (.pointer (some ⟨q, 2, none⟩))).run Tryd.prog w' = .ok (.slice tA tn tc) w') := fun w' hw' => ld_slice (by rw [World.cell?_of_block (w := w5) (by rw [hw'])]; exact (hb5.cell (p := ⟨q, 2, none⟩) hq4).trans z2)
          change wpAny _ _ _ _ _ _ (Act.put _ (some 38) _) _
          simp only [Act.put, List.setIfInBounds_toArray, List.set_cons_zero, List.set_cons_succ]
          refine wpAny_call 6 (some 41) (by kernel_rfl) rfl rfl (by kernel_rfl) 51 (#[.slice tA tn tc]) (by go_simp) (revp_any r.af _ w5 ((show RdE atC 34 wr4.drew _ _ from HT4.out).below hb5 (Nat.le_refl _)) hal0) ?_
          rintro e w6 ⟨v6, rfl, hr6, hb6⟩
          refine ⟨_, rfl, ?_⟩
          change wpAny _ _ _ _ _ _ (Act.put _ (some 41) _) _
          simp only [Act.put, List.setIfInBounds_toArray, List.set_cons_zero, List.set_cons_succ]
          refine wpAny_call 8 (some 43) (by kernel_rfl) rfl rfl (by kernel_rfl) 50 (#[v6, .string bk]) (by go_simp) (ends_any r.af.reverse bk v6 w6 hr6 (by omega) (by simp; omega)) ?_
          rintro e w7 ⟨g2, rfl, hg2, hr2, hb7⟩
          refine ⟨_, rfl, ?_⟩
          rw [hbks]
          change wpAny _ _ _ _ _ _ (Act.put _ (some 43) _) _
          simp only [Act.put, List.setIfInBounds_toArray, List.set_cons_zero, List.set_cons_succ]
          refine wpAny_at (i := 9) (v := .slice (some ⟨g1, 0, none⟩) (s.size + 1) (s.size + 1)) (some 10) rfl rfl (by kernel_rfl) (by kernel_rfl) (by kernel_rfl) (fun _ _ _ h => h) (by kernel_rfl) (fun _ => ex_assign _ _ rfl (by kernel_rfl)) ?_
          simp only [Act.put, List.setIfInBounds_toArray, List.set_cons_zero, List.set_cons_succ]
          refine wpAny_at (i := 10) (v := .slice (some ⟨g2, 0, none⟩) (s.size + 1) (s.size + 1)) (some 11) rfl rfl (by kernel_rfl) (by kernel_rfl) (by kernel_rfl) (fun _ _ _ h => h) (by kernel_rfl) (fun _ => ex_assign _ _ rfl (by kernel_rfl)) ?_
          simp only [Act.put, List.setIfInBounds_toArray, List.set_cons_zero, List.set_cons_succ]
          refine wpAny_done (by kernel_rfl) ?_ _
          rw [hbks] at hr2
          have HG1 : Hid (w7.rowIs g1 4 (s.size + 1) (fun j => .bool (reachF s r.bf allF j))) := (hr1.of_block (hb6.block _ hr1.lt)).of_block (hb7.block _ (hr1.of_block (hb6.block _ hr1.lt)).lt)
          have HG2 : Hid (w7.rowIs g2 4 (s.size + 1) (fun j => .bool (reachF bk r.af.reverse allF j))) := hr2
          have HBq : Hid (Below wr4.heap.size wr4 w7) := ((below_drewN (Below.refl _ wr4) 1).trans hb5).trans ((hb6.trans (hb7.mono hb6.size)).mono hb5.size)
          have HD7 := Lib.hid (HD4.out.of_block (HBq.out.block _ HD4.out.lt))
          have HK7 := Lib.hid (HK4.out.of_block (HBq.out.block _ HK4.out.lt))
          have HB7 := Lib.hid (HB4.out.trans (HBq.out.mono HB4.out.size))
          have z0w := (HBq.out.cell (p := ⟨q, 0, none⟩) hq4).trans z0
          have hg1q : q < g1 := Nat.lt_of_lt_of_le hq4 hg1
          have hg2q : q < g2 := Nat.lt_of_lt_of_le hq4 (Nat.le_trans (Nat.le_trans hb5.size hb6.size) hg2)
          clear hr1 hr2 hb5 hb6 hb7 HL3 hr6 HBq z0 z1 z2 HL1 HL2 HD4 HK4 HB4 HU4 HT4 HQ hq4
          go_wp2_with fail
          obtain ⟨wo2, HWO2⟩ : ∃ wo, Hid (wo = w7) := ⟨w7, rfl⟩
          go_loopg [12] (s.size + 1) (fun gk iv wr => ∃ i : Nat, iv = .int .i64 i ∧ 1 ≤ i ∧ i ≤ s.size + 1 ∧ Hid (wr.rowIs D 4 (s.size + 1) (fun j => .bool (if j < i then decide (0 < j ∧ j < s.size) && foundF (rs.take (k + 1)) s j else decide (0 < j ∧ j < s.size) && foundF (rs.take k) s j))) ∧ Hid (wr.rowIs K 4 (s.size + 1) (fun j => .bool (if j < i then decide (0 < j ∧ j < s.size) && decideF (rs.take (k + 1)) s j else decide (0 < j ∧ j < s.size) && decideF (rs.take k) s j))) ∧ Hid (wr.rowIs g1 4 (s.size + 1) (fun j => .bool (reachF s r.bf allF j))) ∧ Hid (wr.rowIs g2 4 (s.size + 1) (fun j => .bool (reachF bk r.af.reverse allF j))) ∧ wr.cell? ⟨q, 0, none⟩ = some (.bool r.br) ∧ Hid (Below w.heap.size w wr) ∧ s.size + 1 - i ≤ gk)
          case atStart => exact ⟨1, rfl, Nat.le_refl _, by omega, HD7.out.congr (fun j _ => by
              by_cases h : j < 1
              · rw [if_pos h, show j = 0 by omega]; rfl
              · rw [if_neg h]), HK7.out.congr (fun j _ => by
              by_cases h : j < 1
              · rw [if_pos h, show j = 0 by omega]; rfl
              · rw [if_neg h]), HG1.out, HG2.out, z0w, HB7.out, by omega⟩
          case round =>
            clear HD7 HK7 HG1 HG2 z0w HB7 HWO2
            obtain ⟨i, rfl, hi1, hi2, HDi, HKi, HG1i, HG2i, z0i, HBi, hgki⟩ := hrel
            by_cases hil : i < s.size
            · have hii : (i : Int) < (s.size : Int) := by omega
              have hi0 : (0 : Int) ≤ (i : Int) := by omega
              have hi3 : (i : Int) < (s.size : Int) + 1 := by omega
              obtain ⟨t, ht⟩ : ∃ t, t + i = s.size := ⟨s.size - i, by omega⟩
              have hsub : (s.size : Int) - (i : Int) = (t : Int) := by omega
              have ht0 : (0 : Int) ≤ (t : Int) := by omega
              have ht1 : (t : Int) < (s.size : Int) + 1 := by omega
              have qd := HDi.out.cell (i := i) (by omega)
              rw [if_neg (Nat.lt_irrefl i), decide_eq_true ⟨hi1, hil⟩, Bool.true_and] at qd
              have qk := HKi.out.cell (i := i) (by omega)
              have qb := HG1i.out.cell (i := i) (by omega)
              rw [ends_suf r.bf s i (by omega)] at qb
              have qa := HG2i.out.cell (i := t) (by omega)
              rw [show t = s.size - i by omega, ends_pre r.af hbks HBT.out i (by omega), show s.size - i = t by omega] at qa
              have hnd : foundF (rs.take (k + 1)) s i = (foundF (rs.take k) s i || (suffixF r.bf (s.extract 0 i) && prefixF r.af (s.extract i s.size))) := by rw [HTK.out, found_snoc]; rfl
              have hnk : decideF (rs.take (k + 1)) s i = if foundF (rs.take k) s i = true then decideF (rs.take k) s i else ((suffixF r.bf (s.extract 0 i) && prefixF r.af (s.extract i s.size)) && r.br) := by rw [HTK.out, decide_snoc]; rfl
              have hno := decide_none (rs.take k) s i
              cases hfd : foundF (rs.take k) s i with
              | true =>
                rw [hfd] at qd
                have hnew1 : (decide (0 < i ∧ i < s.size) && foundF (rs.take (k + 1)) s i) = (decide (0 < i ∧ i < s.size) && foundF (rs.take k) s i) := by rw [hnd, hfd]; rfl
                have hnew2 : (decide (0 < i ∧ i < s.size) && decideF (rs.take (k + 1)) s i) = (decide (0 < i ∧ i < s.size) && decideF (rs.take k) s i) := by rw [hnk, if_pos hfd]
                clear hnd hnk hno
                have HDN : Hid (wr.rowIs D 4 (s.size + 1) (fun j => .bool (if j < i + 1 then decide (0 < j ∧ j < s.size) && foundF (rs.take (k + 1)) s j else decide (0 < j ∧ j < s.size) && foundF (rs.take k) s j))) := HDi.out.congr fun j hj => by
                  by_cases h : j = i
                  · rw [if_neg (by omega), if_pos (by omega), h, hnew1]
                  · by_cases h2 : j < i
                    · rw [if_pos h2, if_pos (by omega)]
                    · rw [if_neg h2, if_neg (by omega)]
                have HKN : Hid (wr.rowIs K 4 (s.size + 1) (fun j => .bool (if j < i + 1 then decide (0 < j ∧ j < s.size) && decideF (rs.take (k + 1)) s j else decide (0 < j ∧ j < s.size) && decideF (rs.take k) s j))) := HKi.out.congr fun j hj => by
                  by_cases h : j = i
                  · rw [if_neg (by omega), if_pos (by omega), h, hnew2]
                  · by_cases h2 : j < i
                    · rw [if_pos h2, if_pos (by omega)]
                    · rw [if_neg h2, if_neg (by omega)]
                clear hnew1 hnew2
                go_wp2_with fail
                go_roundg (s.size + 1 - (i + 1))
                case measure => omega
                case rel => exact ⟨i + 1, by go_num, by omega, by omega, HDN.out, HKN.out, HG1i.out, HG2i.out, z0i, HBi.out, Nat.le_refl _⟩
              | false =>
                rw [hfd] at qd
                cases hsb : suffixF r.bf (s.extract 0 i) with
                | false =>
                  rw [hsb] at qb
                  have hnew1 : (decide (0 < i ∧ i < s.size) && foundF (rs.take (k + 1)) s i) = (decide (0 < i ∧ i < s.size) && foundF (rs.take k) s i) := by rw [hnd, hfd, hsb]; rfl
                  have hnew2 : (decide (0 < i ∧ i < s.size) && decideF (rs.take (k + 1)) s i) = (decide (0 < i ∧ i < s.size) && decideF (rs.take k) s i) := by rw [hnk, if_neg (by rw [hfd]; exact Bool.false_ne_true), hsb, hno hfd]; rfl
                  clear hnd hnk hno
                  have HDN : Hid (wr.rowIs D 4 (s.size + 1) (fun j => .bool (if j < i + 1 then decide (0 < j ∧ j < s.size) && foundF (rs.take (k + 1)) s j else decide (0 < j ∧ j < s.size) && foundF (rs.take k) s j))) := HDi.out.congr fun j hj => by
                    by_cases h : j = i
                    · rw [if_neg (by omega), if_pos (by omega), h, hnew1]
                    · by_cases h2 : j < i
                      · rw [if_pos h2, if_pos (by omega)]
                      · rw [if_neg h2, if_neg (by omega)]
                  have HKN : Hid (wr.rowIs K 4 (s.size + 1) (fun j => .bool (if j < i + 1 then decide (0 < j ∧ j < s.size) && decideF (rs.take (k + 1)) s j else decide (0 < j ∧ j < s.size) && decideF (rs.take k) s j))) := HKi.out.congr fun j hj => by
                    by_cases h : j = i
                    · rw [if_neg (by omega), if_pos (by omega), h, hnew2]
                    · by_cases h2 : j < i
                      · rw [if_pos h2, if_pos (by omega)]
                      · rw [if_neg h2, if_neg (by omega)]
                  clear hnew1 hnew2
                  go_wp2_with fail
                  go_roundg (s.size + 1 - (i + 1))
                  case measure => omega
                  case rel => exact ⟨i + 1, by go_num, by omega, by omega, HDN.out, HKN.out, HG1i.out, HG2i.out, z0i, HBi.out, Nat.le_refl _⟩
                | true =>
                  rw [hsb] at qb
                  cases hpa : prefixF r.af (s.extract i s.size) with
                  | false =>
                    rw [hpa] at qa
                    have hnew1 : (decide (0 < i ∧ i < s.size) && foundF (rs.take (k + 1)) s i) = (decide (0 < i ∧ i < s.size) && foundF (rs.take k) s i) := by rw [hnd, hfd, hsb, hpa]; rfl
                    have hnew2 : (decide (0 < i ∧ i < s.size) && decideF (rs.take (k + 1)) s i) = (decide (0 < i ∧ i < s.size) && decideF (rs.take k) s i) := by rw [hnk, if_neg (by rw [hfd]; exact Bool.false_ne_true), hsb, hpa, hno hfd]; rfl
                    clear hnd hnk hno
                    have HDN : Hid (wr.rowIs D 4 (s.size + 1) (fun j => .bool (if j < i + 1 then decide (0 < j ∧ j < s.size) && foundF (rs.take (k + 1)) s j else decide (0 < j ∧ j < s.size) && foundF (rs.take k) s j))) := HDi.out.congr fun j hj => by
                      by_cases h : j = i
                      · rw [if_neg (by omega), if_pos (by omega), h, hnew1]
                      · by_cases h2 : j < i
                        · rw [if_pos h2, if_pos (by omega)]
                        · rw [if_neg h2, if_neg (by omega)]
                    have HKN : Hid (wr.rowIs K 4 (s.size + 1) (fun j => .bool (if j < i + 1 then decide (0 < j ∧ j < s.size) && decideF (rs.take (k + 1)) s j else decide (0 < j ∧ j < s.size) && decideF (rs.take k) s j))) := HKi.out.congr fun j hj => by
                      by_cases h : j = i
                      · rw [if_neg (by omega), if_pos (by omega), h, hnew2]
                      · by_cases h2 : j < i
                        · rw [if_pos h2, if_pos (by omega)]
                        · rw [if_neg h2, if_neg (by omega)]
                    clear hnew1 hnew2
                    go_wp2_with fail
                    go_roundg (s.size + 1 - (i + 1))
                    case measure => omega
                    case rel => exact ⟨i + 1, by go_num, by omega, by omega, HDN.out, HKN.out, HG1i.out, HG2i.out, z0i, HBi.out, Nat.le_refl _⟩
                  | true =>
                    rw [hpa] at qa
                    have hnew1 : foundF (rs.take (k + 1)) s i = true := by rw [hnd, hfd, hsb, hpa]; rfl
                    have hnew2 : decideF (rs.take (k + 1)) s i = r.br := by rw [hnk, if_neg (by rw [hfd]; exact Bool.false_ne_true), hsb, hpa]; rfl
                    clear hnd hnk hno
                    have fd := HDi.out.frozen i
                    have fk := HKi.out.frozen i
                    have hne : ¬ D = K := by omega
                    have hne2 : ¬ K = D := by omega
                    have HD8 : Hid (((wr.drew.setCell ⟨D, i, none⟩ (.bool true)).setCell ⟨K, i, none⟩ (.bool r.br)).rowIs D 4 (s.size + 1) (fun j => .bool (if j < i + 1 then decide (0 < j ∧ j < s.size) && foundF (rs.take (k + 1)) s j else decide (0 < j ∧ j < s.size) && foundF (rs.take k) s j))) := ((HDi.out.drew.set i (.bool true)).of_block (Below.heap_setCell _ _ _ _ (show D ≠ K by omega))).congr fun j hj => by
                      by_cases h : j = i
                      · rw [if_pos h, if_pos (by omega), h, hnew1, decide_eq_true ⟨hi1, hil⟩]; rfl
                      · rw [if_neg h]
                        by_cases h2 : j < i
                        · rw [if_pos h2, if_pos (by omega)]
                        · rw [if_neg h2, if_neg (by omega)]
                    have HK8 : Hid (((wr.drew.setCell ⟨D, i, none⟩ (.bool true)).setCell ⟨K, i, none⟩ (.bool r.br)).rowIs K 4 (s.size + 1) (fun j => .bool (if j < i + 1 then decide (0 < j ∧ j < s.size) && decideF (rs.take (k + 1)) s j else decide (0 < j ∧ j < s.size) && decideF (rs.take k) s j))) := ((HKi.out.drew.of_block (Below.heap_setCell _ _ _ _ (show K ≠ D by omega))).set i (.bool r.br)).congr fun j hj => by
                      by_cases h : j = i
                      · rw [if_pos h, if_pos (by omega), h, hnew2, decide_eq_true ⟨hi1, hil⟩]; rfl
                      · rw [if_neg h]
                        by_cases h2 : j < i
                        · rw [if_pos h2, if_pos (by omega)]
                        · rw [if_neg h2, if_neg (by omega)]
                    have HG18 : Hid (((wr.drew.setCell ⟨D, i, none⟩ (.bool true)).setCell ⟨K, i, none⟩ (.bool r.br)).rowIs g1 4 (s.size + 1) (fun j => .bool (reachF s r.bf allF j))) := (HG1i.out.drew.of_block (Below.heap_setCell _ _ _ _ (show g1 ≠ D by omega))).of_block (Below.heap_setCell _ _ _ _ (show g1 ≠ K by omega))
                    have HG28 : Hid (((wr.drew.setCell ⟨D, i, none⟩ (.bool true)).setCell ⟨K, i, none⟩ (.bool r.br)).rowIs g2 4 (s.size + 1) (fun j => .bool (reachF bk r.af.reverse allF j))) := (HG2i.out.drew.of_block (Below.heap_setCell _ _ _ _ (show g2 ≠ D by omega))).of_block (Below.heap_setCell _ _ _ _ (show g2 ≠ K by omega))
                    have HZ8 : Hid (((wr.drew.setCell ⟨D, i, none⟩ (.bool true)).setCell ⟨K, i, none⟩ (.bool r.br)).cell? ⟨q, 0, none⟩ = some (.bool r.br)) := by
                      show _ = _
                      rw [World.cell?_of_block (w := wr.drew.setCell ⟨D, i, none⟩ (.bool true)) (Below.heap_setCell _ _ _ _ (show q ≠ K by omega)), World.cell?_of_block (w := wr.drew) (Below.heap_setCell _ _ _ _ (show q ≠ D by omega))]
                      exact z0i
                    have HB8 : Hid (Below w.heap.size w ((wr.drew.setCell ⟨D, i, none⟩ (.bool true)).setCell ⟨K, i, none⟩ (.bool r.br))) := (HBi.out.drew.setCell (p := ⟨D, i, none⟩) (show w.heap.size ≤ D by omega) _).setCell (p := ⟨K, i, none⟩) (show w.heap.size ≤ K by omega) _
                    go_upto_region 14 with fail
                    go_region
                    go_wp2_with fail
                    go_roundg (s.size + 1 - (i + 1))
                    case measure => omega
                    case rel => exact ⟨i + 1, by go_num, by omega, by omega, HD8.out, HK8.out, HG18.out, HG28.out, HZ8.out, HB8.out, Nat.le_refl _⟩
            · have hge : s.size ≤ i := by omega
              have hii : ¬ (i : Int) < (s.size : Int) := by omega
              have HDE : Hid (wr.rowIs D 4 (s.size + 1) (fun j => .bool (decide (0 < j ∧ j < s.size) && foundF (rs.take (k + 1)) s j))) := HDi.out.congr fun j hj => by
                by_cases h : j < i
                · rw [if_pos h]
                · rw [if_neg h, decide_eq_false (by omega)]; rfl
              have HKE : Hid (wr.rowIs K 4 (s.size + 1) (fun j => .bool (decide (0 < j ∧ j < s.size) && decideF (rs.take (k + 1)) s j))) := HKi.out.congr fun j hj => by
                by_cases h : j < i
                · rw [if_pos h]
                · rw [if_neg h, decide_eq_false (by omega)]; rfl
              go_wp2_with fail
              go_roundg (xs.length - (k + 1))
              case measure => omega
              case rel => exact ⟨k + 1, by go_num, by omega, HDE.out, HKE.out, HBi.out, Nat.le_refl _⟩
      · simp only [Act.put, List.setIfInBounds_toArray, List.set_cons_zero, List.set_cons_succ]
        refine wpAny_val 1 (some 36) (.slice uA un uc) (by kernel_rfl) rfl rfl (by kernel_rfl) (ex_load 28 _ (.pointer (some ⟨q, 1, none⟩)) _ rfl (by kernel_rfl) (HL1.out)) ?_
        simp only [Act.put, List.setIfInBounds_toArray, List.set_cons_zero, List.set_cons_succ]
        refine wpAny_call 3 (some 38) (by kernel_rfl) rfl rfl (by kernel_rfl) 50 (#[.slice uA un uc, .string s]) (by go_simp) (ends_any r.bf s _ wr4.drew HU4.out (by omega) hbl0) ?_
        rintro e w5 ⟨g1, rfl, hg1, hr1, hb5⟩
        refine ⟨_, rfl, ?_⟩
        have HL3 : Hid (∀ w', w'.heap = w5.heap → (Instr.loadAt 28 (.pointer (some ⟨q, 2, none⟩))).run Tryd.prog w' = .ok (.slice tA tn tc) w') := fun w' hw' => ld_slice (by rw [World.cell?_of_block (w := w5) (by rw [hw'])]; exact (hb5.cell (p := ⟨q, 2, none⟩) hq4).trans z2)
        change wpAny _ _ _ _ _ _ (Act.put _ (some 38) _) _
        simp only [Act.put, List.setIfInBounds_toArray, List.set_cons_zero, List.set_cons_succ]
        refine wpAny_call 6 (some 41) (by kernel_rfl) rfl rfl (by kernel_rfl) 51 (#[.slice tA tn tc]) (by go_simp) (revp_any r.af _ w5 ((show RdE atC 34 wr4.drew _ _ from HT4.out).below hb5 (Nat.le_refl _)) hal0) ?_
        rintro e w6 ⟨v6, rfl, hr6, hb6⟩
        refine ⟨_, rfl, ?_⟩
        change wpAny _ _ _ _ _ _ (Act.put _ (some 41) _) _
        simp only [Act.put, List.setIfInBounds_toArray, List.set_cons_zero, List.set_cons_succ]
        refine wpAny_call 8 (some 43) (by kernel_rfl) rfl rfl (by kernel_rfl) 50 (#[v6, .string bk]) (by go_simp) (ends_any r.af.reverse bk v6 w6 hr6 (by omega) (by simp; omega)) ?_
        rintro e w7 ⟨g2, rfl, hg2, hr2, hb7⟩
        refine ⟨_, rfl, ?_⟩
        rw [hbks]
        change wpAny _ _ _ _ _ _ (Act.put _ (some 43) _) _
        simp only [Act.put, List.setIfInBounds_toArray, List.set_cons_zero, List.set_cons_succ]
        refine wpAny_at (i := 9) (v := .slice (some ⟨g1, 0, none⟩) (s.size + 1) (s.size + 1)) (some 10) rfl rfl (by kernel_rfl) (by kernel_rfl) (by kernel_rfl) (fun _ _ _ h => h) (by kernel_rfl) (fun _ => ex_assign _ _ rfl (by kernel_rfl)) ?_
        simp only [Act.put, List.setIfInBounds_toArray, List.set_cons_zero, List.set_cons_succ]
        refine wpAny_at (i := 10) (v := .slice (some ⟨g2, 0, none⟩) (s.size + 1) (s.size + 1)) (some 11) rfl rfl (by kernel_rfl) (by kernel_rfl) (by kernel_rfl) (fun _ _ _ h => h) (by kernel_rfl) (fun _ => ex_assign _ _ rfl (by kernel_rfl)) ?_
        simp only [Act.put, List.setIfInBounds_toArray, List.set_cons_zero, List.set_cons_succ]
        refine wpAny_done (by kernel_rfl) ?_ _
        rw [hbks] at hr2
        have HG1 : Hid (w7.rowIs g1 4 (s.size + 1) (fun j => .bool (reachF s r.bf allF j))) := (hr1.of_block (hb6.block _ hr1.lt)).of_block (hb7.block _ (hr1.of_block (hb6.block _ hr1.lt)).lt)
        have HG2 : Hid (w7.rowIs g2 4 (s.size + 1) (fun j => .bool (reachF bk r.af.reverse allF j))) := hr2
        have HBq : Hid (Below wr4.heap.size wr4 w7) := ((below_drewN (Below.refl _ wr4) 1).trans hb5).trans ((hb6.trans (hb7.mono hb6.size)).mono hb5.size)
        have HD7 := Lib.hid (HD4.out.of_block (HBq.out.block _ HD4.out.lt))
        have HK7 := Lib.hid (HK4.out.of_block (HBq.out.block _ HK4.out.lt))
        have HB7 := Lib.hid (HB4.out.trans (HBq.out.mono HB4.out.size))
        have z0w := (HBq.out.cell (p := ⟨q, 0, none⟩) hq4).trans z0
        have hg1q : q < g1 := Nat.lt_of_lt_of_le hq4 hg1
        have hg2q : q < g2 := Nat.lt_of_lt_of_le hq4 (Nat.le_trans (Nat.le_trans hb5.size hb6.size) hg2)
        clear hr1 hr2 hb5 hb6 hb7 HL3 hr6 HBq z0 z1 z2 HL1 HL2 HD4 HK4 HB4 HU4 HT4 HQ hq4
        go_wp2_with fail
        obtain ⟨wo2, HWO2⟩ : ∃ wo, Hid (wo = w7) := ⟨w7, rfl⟩
        go_loopg [12] (s.size + 1) (fun gk iv wr => ∃ i : Nat, iv = .int .i64 i ∧ 1 ≤ i ∧ i ≤ s.size + 1 ∧ Hid (wr.rowIs D 4 (s.size + 1) (fun j => .bool (if j < i then decide (0 < j ∧ j < s.size) && foundF (rs.take (k + 1)) s j else decide (0 < j ∧ j < s.size) && foundF (rs.take k) s j))) ∧ Hid (wr.rowIs K 4 (s.size + 1) (fun j => .bool (if j < i then decide (0 < j ∧ j < s.size) && decideF (rs.take (k + 1)) s j else decide (0 < j ∧ j < s.size) && decideF (rs.take k) s j))) ∧ Hid (wr.rowIs g1 4 (s.size + 1) (fun j => .bool (reachF s r.bf allF j))) ∧ Hid (wr.rowIs g2 4 (s.size + 1) (fun j => .bool (reachF bk r.af.reverse allF j))) ∧ wr.cell? ⟨q, 0, none⟩ = some (.bool r.br) ∧ Hid (Below w.heap.size w wr) ∧ s.size + 1 - i ≤ gk)
        case atStart => exact ⟨1, rfl, Nat.le_refl _, by omega, HD7.out.congr (fun j _ => by
            by_cases h : j < 1
            · rw [if_pos h, show j = 0 by omega]; rfl
            · rw [if_neg h]), HK7.out.congr (fun j _ => by
            by_cases h : j < 1
            · rw [if_pos h, show j = 0 by omega]; rfl
            · rw [if_neg h]), HG1.out, HG2.out, z0w, HB7.out, by omega⟩
        case round =>
          clear HD7 HK7 HG1 HG2 z0w HB7 HWO2
          obtain ⟨i, rfl, hi1, hi2, HDi, HKi, HG1i, HG2i, z0i, HBi, hgki⟩ := hrel
          by_cases hil : i < s.size
          · have hii : (i : Int) < (s.size : Int) := by omega
            have hi0 : (0 : Int) ≤ (i : Int) := by omega
            have hi3 : (i : Int) < (s.size : Int) + 1 := by omega
            obtain ⟨t, ht⟩ : ∃ t, t + i = s.size := ⟨s.size - i, by omega⟩
            have hsub : (s.size : Int) - (i : Int) = (t : Int) := by omega
            have ht0 : (0 : Int) ≤ (t : Int) := by omega
            have ht1 : (t : Int) < (s.size : Int) + 1 := by omega
            have qd := HDi.out.cell (i := i) (by omega)
            rw [if_neg (Nat.lt_irrefl i), decide_eq_true ⟨hi1, hil⟩, Bool.true_and] at qd
            have qk := HKi.out.cell (i := i) (by omega)
            have qb := HG1i.out.cell (i := i) (by omega)
            rw [ends_suf r.bf s i (by omega)] at qb
            have qa := HG2i.out.cell (i := t) (by omega)
            rw [show t = s.size - i by omega, ends_pre r.af hbks HBT.out i (by omega), show s.size - i = t by omega] at qa
            have hnd : foundF (rs.take (k + 1)) s i = (foundF (rs.take k) s i || (suffixF r.bf (s.extract 0 i) && prefixF r.af (s.extract i s.size))) := by rw [HTK.out, found_snoc]; rfl
            have hnk : decideF (rs.take (k + 1)) s i = if foundF (rs.take k) s i = true then decideF (rs.take k) s i else ((suffixF r.bf (s.extract 0 i) && prefixF r.af (s.extract i s.size)) && r.br) := by rw [HTK.out, decide_snoc]; rfl
            have hno := decide_none (rs.take k) s i
            cases hfd : foundF (rs.take k) s i with
            | true =>
              rw [hfd] at qd
              have hnew1 : (decide (0 < i ∧ i < s.size) && foundF (rs.take (k + 1)) s i) = (decide (0 < i ∧ i < s.size) && foundF (rs.take k) s i) := by rw [hnd, hfd]; rfl
              have hnew2 : (decide (0 < i ∧ i < s.size) && decideF (rs.take (k + 1)) s i) = (decide (0 < i ∧ i < s.size) && decideF (rs.take k) s i) := by rw [hnk, if_pos hfd]
              clear hnd hnk hno
              have HDN : Hid (wr.rowIs D 4 (s.size + 1) (fun j => .bool (if j < i + 1 then decide (0 < j ∧ j < s.size) && foundF (rs.take (k + 1)) s j else decide (0 < j ∧ j < s.size) && foundF (rs.take k) s j))) := HDi.out.congr fun j hj => by
                by_cases h : j = i
                · rw [if_neg (by omega), if_pos (by omega), h, hnew1]
                · by_cases h2 : j < i
                  · rw [if_pos h2, if_pos (by omega)]
                  · rw [if_neg h2, if_neg (by omega)]
              have HKN : Hid (wr.rowIs K 4 (s.size + 1) (fun j => .bool (if j < i + 1 then decide (0 < j ∧ j < s.size) && decideF (rs.take (k + 1)) s j else decide (0 < j ∧ j < s.size) && decideF (rs.take k) s j))) := HKi.out.congr fun j hj => by
                by_cases h : j = i
                · rw [if_neg (by omega), if_pos (by omega), h, hnew2]
                · by_cases h2 : j < i
                  · rw [if_pos h2, if_pos (by omega)]
                  · rw [if_neg h2, if_neg (by omega)]
              clear hnew1 hnew2
              go_wp2_with fail
              go_roundg (s.size + 1 - (i + 1))
              case measure => omega
              case rel => exact ⟨i + 1, by go_num, by omega, by omega, HDN.out, HKN.out, HG1i.out, HG2i.out, z0i, HBi.out, Nat.le_refl _⟩
            | false =>
              rw [hfd] at qd
              cases hsb : suffixF r.bf (s.extract 0 i) with
              | false =>
                rw [hsb] at qb
                have hnew1 : (decide (0 < i ∧ i < s.size) && foundF (rs.take (k + 1)) s i) = (decide (0 < i ∧ i < s.size) && foundF (rs.take k) s i) := by rw [hnd, hfd, hsb]; rfl
                have hnew2 : (decide (0 < i ∧ i < s.size) && decideF (rs.take (k + 1)) s i) = (decide (0 < i ∧ i < s.size) && decideF (rs.take k) s i) := by rw [hnk, if_neg (by rw [hfd]; exact Bool.false_ne_true), hsb, hno hfd]; rfl
                clear hnd hnk hno
                have HDN : Hid (wr.rowIs D 4 (s.size + 1) (fun j => .bool (if j < i + 1 then decide (0 < j ∧ j < s.size) && foundF (rs.take (k + 1)) s j else decide (0 < j ∧ j < s.size) && foundF (rs.take k) s j))) := HDi.out.congr fun j hj => by
                  by_cases h : j = i
                  · rw [if_neg (by omega), if_pos (by omega), h, hnew1]
                  · by_cases h2 : j < i
                    · rw [if_pos h2, if_pos (by omega)]
                    · rw [if_neg h2, if_neg (by omega)]
                have HKN : Hid (wr.rowIs K 4 (s.size + 1) (fun j => .bool (if j < i + 1 then decide (0 < j ∧ j < s.size) && decideF (rs.take (k + 1)) s j else decide (0 < j ∧ j < s.size) && decideF (rs.take k) s j))) := HKi.out.congr fun j hj => by
                  by_cases h : j = i
                  · rw [if_neg (by omega), if_pos (by omega), h, hnew2]
                  · by_cases h2 : j < i
                    · rw [if_pos h2, if_pos (by omega)]
                    · rw [if_neg h2, if_neg (by omega)]
                clear hnew1 hnew2
                go_wp2_with fail
                go_roundg (s.size + 1 - (i + 1))
                case measure => omega
                case rel => exact ⟨i + 1, by go_num, by omega, by omega, HDN.out, HKN.out, HG1i.out, HG2i.out, z0i, HBi.out, Nat.le_refl _⟩
              | true =>
                rw [hsb] at qb
                cases hpa : prefixF r.af (s.extract i s.size) with
                | false =>
                  rw [hpa] at qa
                  have hnew1 : (decide (0 < i ∧ i < s.size) && foundF (rs.take (k + 1)) s i) = (decide (0 < i ∧ i < s.size) && foundF (rs.take k) s i) := by rw [hnd, hfd, hsb, hpa]; rfl
                  have hnew2 : (decide (0 < i ∧ i < s.size) && decideF (rs.take (k + 1)) s i) = (decide (0 < i ∧ i < s.size) && decideF (rs.take k) s i) := by rw [hnk, if_neg (by rw [hfd]; exact Bool.false_ne_true), hsb, hpa, hno hfd]; rfl
                  clear hnd hnk hno
                  have HDN : Hid (wr.rowIs D 4 (s.size + 1) (fun j => .bool (if j < i + 1 then decide (0 < j ∧ j < s.size) && foundF (rs.take (k + 1)) s j else decide (0 < j ∧ j < s.size) && foundF (rs.take k) s j))) := HDi.out.congr fun j hj => by
                    by_cases h : j = i
                    · rw [if_neg (by omega), if_pos (by omega), h, hnew1]
                    · by_cases h2 : j < i
                      · rw [if_pos h2, if_pos (by omega)]
                      · rw [if_neg h2, if_neg (by omega)]
                  have HKN : Hid (wr.rowIs K 4 (s.size + 1) (fun j => .bool (if j < i + 1 then decide (0 < j ∧ j < s.size) && decideF (rs.take (k + 1)) s j else decide (0 < j ∧ j < s.size) && decideF (rs.take k) s j))) := HKi.out.congr fun j hj => by
                    by_cases h : j = i
                    · rw [if_neg (by omega), if_pos (by omega), h, hnew2]
                    · by_cases h2 : j < i
                      · rw [if_pos h2, if_pos (by omega)]
                      · rw [if_neg h2, if_neg (by omega)]
                  clear hnew1 hnew2
                  go_wp2_with fail
                  go_roundg (s.size + 1 - (i + 1))
                  case measure => omega
                  case rel => exact ⟨i + 1, by go_num, by omega, by omega, HDN.out, HKN.out, HG1i.out, HG2i.out, z0i, HBi.out, Nat.le_refl _⟩
                | true =>
                  rw [hpa] at qa
                  have hnew1 : foundF (rs.take (k + 1)) s i = true := by rw [hnd, hfd, hsb, hpa]; rfl
                  have hnew2 : decideF (rs.take (k + 1)) s i = r.br := by rw [hnk, if_neg (by rw [hfd]; exact Bool.false_ne_true), hsb, hpa]; rfl
                  clear hnd hnk hno
                  have fd := HDi.out.frozen i
                  have fk := HKi.out.frozen i
                  have hne : ¬ D = K := by omega
                  have hne2 : ¬ K = D := by omega
                  have HD8 : Hid (((wr.drew.setCell ⟨D, i, none⟩ (.bool true)).setCell ⟨K, i, none⟩ (.bool r.br)).rowIs D 4 (s.size + 1) (fun j => .bool (if j < i + 1 then decide (0 < j ∧ j < s.size) && foundF (rs.take (k + 1)) s j else decide (0 < j ∧ j < s.size) && foundF (rs.take k) s j))) := ((HDi.out.drew.set i (.bool true)).of_block (Below.heap_setCell _ _ _ _ (show D ≠ K by omega))).congr fun j hj => by
                    by_cases h : j = i
                    · rw [if_pos h, if_pos (by omega), h, hnew1, decide_eq_true ⟨hi1, hil⟩]; rfl
                    · rw [if_neg h]
                      by_cases h2 : j < i
                      · rw [if_pos h2, if_pos (by omega)]
                      · rw [if_neg h2, if_neg (by omega)]
                  have HK8 : Hid (((wr.drew.setCell ⟨D, i, none⟩ (.bool true)).setCell ⟨K, i, none⟩ (.bool r.br)).rowIs K 4 (s.size + 1) (fun j => .bool (if j < i + 1 then decide (0 < j ∧ j < s.size) && decideF (rs.take (k + 1)) s j else decide (0 < j ∧ j < s.size) && decideF (rs.take k) s j))) := ((HKi.out.drew.of_block (Below.heap_setCell _ _ _ _ (show K ≠ D by omega))).set i (.bool r.br)).congr fun j hj => by
                    by_cases h : j = i
                    · rw [if_pos h, if_pos (by omega), h, hnew2, decide_eq_true ⟨hi1, hil⟩]; rfl
                    · rw [if_neg h]
                      by_cases h2 : j < i
                      · rw [if_pos h2, if_pos (by omega)]
                      · rw [if_neg h2, if_neg (by omega)]
                  have HG18 : Hid (((wr.drew.setCell ⟨D, i, none⟩ (.bool true)).setCell ⟨K, i, none⟩ (.bool r.br)).rowIs g1 4 (s.size + 1) (fun j => .bool (reachF s r.bf allF j))) := (HG1i.out.drew.of_block (Below.heap_setCell _ _ _ _ (show g1 ≠ D by omega))).of_block (Below.heap_setCell _ _ _ _ (show g1 ≠ K by omega))
                  have HG28 : Hid (((wr.drew.setCell ⟨D, i, none⟩ (.bool true)).setCell ⟨K, i, none⟩ (.bool r.br)).rowIs g2 4 (s.size + 1) (fun j => .bool (reachF bk r.af.reverse allF j))) := (HG2i.out.drew.of_block (Below.heap_setCell _ _ _ _ (show g2 ≠ D by omega))).of_block (Below.heap_setCell _ _ _ _ (show g2 ≠ K by omega))
                  have HZ8 : Hid (((wr.drew.setCell ⟨D, i, none⟩ (.bool true)).setCell ⟨K, i, none⟩ (.bool r.br)).cell? ⟨q, 0, none⟩ = some (.bool r.br)) := by
                    show _ = _
                    rw [World.cell?_of_block (w := wr.drew.setCell ⟨D, i, none⟩ (.bool true)) (Below.heap_setCell _ _ _ _ (show q ≠ K by omega)), World.cell?_of_block (w := wr.drew) (Below.heap_setCell _ _ _ _ (show q ≠ D by omega))]
                    exact z0i
                  have HB8 : Hid (Below w.heap.size w ((wr.drew.setCell ⟨D, i, none⟩ (.bool true)).setCell ⟨K, i, none⟩ (.bool r.br))) := (HBi.out.drew.setCell (p := ⟨D, i, none⟩) (show w.heap.size ≤ D by omega) _).setCell (p := ⟨K, i, none⟩) (show w.heap.size ≤ K by omega) _
                  go_upto_region 14 with fail
                  go_region
                  go_wp2_with fail
                  go_roundg (s.size + 1 - (i + 1))
                  case measure => omega
                  case rel => exact ⟨i + 1, by go_num, by omega, by omega, HD8.out, HK8.out, HG18.out, HG28.out, HZ8.out, HB8.out, Nat.le_refl _⟩
          · have hge : s.size ≤ i := by omega
            have hii : ¬ (i : Int) < (s.size : Int) := by omega
            have HDE : Hid (wr.rowIs D 4 (s.size + 1) (fun j => .bool (decide (0 < j ∧ j < s.size) && foundF (rs.take (k + 1)) s j))) := HDi.out.congr fun j hj => by
              by_cases h : j < i
              · rw [if_pos h]
              · rw [if_neg h, decide_eq_false (by omega)]; rfl
            have HKE : Hid (wr.rowIs K 4 (s.size + 1) (fun j => .bool (decide (0 < j ∧ j < s.size) && decideF (rs.take (k + 1)) s j))) := HKi.out.congr fun j hj => by
              by_cases h : j < i
              · rw [if_pos h]
              · rw [if_neg h, decide_eq_false (by omega)]; rfl
            go_wp2_with fail
            go_roundg (xs.length - (k + 1))
            case measure => omega
            case rel => exact ⟨k + 1, by go_num, by omega, HDE.out, HKE.out, HBi.out, Nat.le_refl _⟩
    · obtain rfl : k = xs.length := by omega
      have hki : ¬ (xs.length : Int) < (xs.length : Int) := by omega
      have HKF : Hid (wr.rowIs K 4 (s.size + 1) (fun j => .bool (rowB rs s j))) := HK.out.congr fun j hj => by
        rw [List.take_of_length_le hxb]; rfl
      have e0 : uptoN (rowB rs s) (s.size + 1) = breaksF rs s := breaks_row rs s (by omega)
      have E0 := Lib.hid e0
      clear HD HK e0
      obtain ⟨M, hM⟩ : ∃ M, Hid (M = wr.heap.size) := ⟨_, rfl⟩
      have hKM : K < M := by rw [hM.out]; exact HKF.out.lt
      have hwM : w.heap.size ≤ M := by rw [hM.out]; exact HB.out.size
      have hMw : M ≤ wr.heap.size := by rw [hM.out]; exact Nat.le_refl _
      go_wp2_with fail
      obtain ⟨wo3, HWO3⟩ : ∃ wo, Hid (wo = wr) := ⟨wr, rfl⟩
      go_loopg [13, 81] (s.size + 1) (fun gk ov kv wr => ∃ (k : Nat) (q : List Int) (A : Option Addr) (c : Nat), ov = .slice A q.length c ∧ kv = .int .i64 k ∧ k ≤ s.size + 1 ∧ Hid (q = uptoN (rowB rs s) k) ∧ Hid (OwnE 3 intC 1 wr M (.slice A q.length c) q) ∧ Hid (wr.rowIs K 4 (s.size + 1) (fun j => .bool (rowB rs s j))) ∧ M ≤ wr.heap.size ∧ Hid (Below w.heap.size w wr) ∧ q.length ≤ k ∧ s.size + 1 - k ≤ gk)
      case atStart => exact ⟨0, [], none, 0, rfl, rfl, by omega, rfl, OwnE.nil, HKF.out, hMw, HB.out, Nat.le_refl _, by omega⟩
      case round =>
        clear HKF HB hMw HWO3 hM
        obtain ⟨k, q, A, c, rfl, rfl, hk2, HQ, HO, HK2, hMr, HB2, hqk, hgk2⟩ := hrel
        by_cases hkl2 : k < s.size + 1
        · have hkj : (k : Int) < (s.size : Int) + 1 := by omega
          have hk0 : (0 : Int) ≤ (k : Int) := by omega
          have qk := HK2.out.cell (i := k) hkl2
          have HQ2 : Hid (uptoN (rowB rs s) (k + 1) = q ++ if rowB rs s k = true then [(k : Int)] else []) := by show _ = _; rw [uptoN_succ, HQ.out]
          cases hb : rowB rs s k with
          | false =>
            rw [hb] at qk HQ2
            rw [if_neg Bool.false_ne_true, List.append_nil] at HQ2
            go_wp2_with fail
            go_roundg (s.size + 1 - (k + 1))
            case measure => omega
            case rel => exact ⟨k + 1, q, A, c, rfl, by go_num, by omega, HQ2.out.symm, HO.out, HK2.out, hMr, HB2.out, by omega, Nat.le_refl _⟩
          | true =>
            rw [hb] at qk HQ2
            rw [if_pos rfl] at HQ2
            go_wp2_with (at_builtin; go_must (refine wpList_app1 rfl (.tmp 87) (.tmp 89) 32 3 rfl Tryd.underlying32 _ 1 8 int_info6 rfl (by decide) M (.slice A q.length c) q.length (q.flatMap intC) rfl (own_below HO.out ((Below.refl _ wr).alloc (Nat.le_refl _) _) (Nat.le_refl _)) ⟨wr.heap.size, 0, none⟩ 1 (intC k) rfl rfl (cells_new wr (intC k) 3) (intC_oneA k) (by omega) (by decide) (by simp; omega) ?_); intro g9 cap w9 hown9 hbg9 hbel9 hgrow9)
            have hbn := hbel9 M wr (Nat.le_refl _) ((Below.refl M wr).alloc hMr (.cells (intC k).toArray 3))
            have HB9 := Lib.hid (HB2.out.trans (hbn.mono hwM))
            have HO9 : Hid (OwnE 3 intC 1 w9 M (.slice (some ⟨g9, 0, none⟩) (q.length + 1) cap) (q ++ [(k : Int)])) := OwnE.snoc hown9
            have HK9 := Lib.hid (HK2.out.of_block (hbn.block _ hKM))
            have hM9 := Nat.le_trans hMr hbn.size
            clear hown9 hbel9 hgrow9 hbn
            go_wp2_with fail
            go_roundg (s.size + 1 - (k + 1))
            case measure => omega
            case rel => exact ⟨k + 1, q ++ [(k : Int)], some ⟨g9, 0, none⟩, cap, by (show Value.slice _ _ _ = Value.slice _ _ _); rw [List.length_append]; rfl, by go_num, by omega, HQ2.out.symm, by (show OwnE _ _ _ _ _ _ _); rw [List.length_append]; exact HO9.out, HK9.out, hM9, HB9.out, by rw [List.length_append]; show q.length + 1 ≤ k + 1; omega, Nat.le_refl _⟩
        · obtain rfl : k = s.size + 1 := by omega
          have hkj : ¬ (((s.size + 1 : Nat)) : Int) < (s.size : Int) + 1 := by omega
          have E1 : Hid (q = breaksF rs s) := HQ.out.trans E0.out
          go_wp2_with fail
          rw [HRR.out]
          have h := own_base HO.out hwM
          rw [← E1.out]
          exact ⟨_, rfl, h, HB2.out⟩

end Go.Proofs.YtpboaadjbkaidaaDoor

namespace Go.Proofs.YtpboaadjbkaidaaDoor
set_option maxRecDepth 100000
open Go.RowKit

/-- What a call gives that returns places. -/
def RetReach (w : World) (n : Nat) (f : Nat → Bool) (e : Ending) (w' : World) : Prop := ∃ v, e = .returned v ∧ PlIn w' v n f ∧ Below w.heap.size w w'

end Go.Proofs.YtpboaadjbkaidaaDoor

namespace Go.Proofs.YtpboaadjbkaidaaDoor
set_option maxRecDepth 100000
open Go.RowKit

end Go.Proofs.YtpboaadjbkaidaaDoor

namespace Go.Proofs.YtpboaadjbkaidaaDoor
set_option maxRecDepth 100000
open Go.RowKit

def bC (b : Bool) : List Value := [.bool b]
theorem bC_one (b : Bool) : ∀ u ∈ bC b, u.oneCell' = true := by
  intro u hu
  simp [bC] at hu
  subst hu
  rfl
def bRow (n : Nat) (f : Nat → Bool) : List Bool := (List.range n).map f
theorem bRow_len (n : Nat) (f : Nat → Bool) : (bRow n f).length = n := by simp [bRow]
theorem rd_pl {w : World} {v : Value} {n : Nat} {f : Nat → Bool} (h : RdE bC 1 w v (bRow n f)) (hn : 0 < n) : PlIn w v n f := by
  obtain ⟨A, c, hv, _, _, hc⟩ := h
  rw [bRow_len] at hv hc
  obtain ⟨b, o, rfl, hb, hx⟩ := hc hn
  exact ⟨b, o, c, hv, hb, fun j hj => by
    have := hx j (f j) 0 (.bool (f j)) (by simp [bRow, hj]) rfl
    rwa [show o + (j * 1 + 0) = o + j by omega] at this⟩
theorem row_rd {w : World} {g n : Nat} {f : Nat → Bool} (h : w.rowIs g 4 n (fun j => .bool (f j))) : RdE bC 1 w (.slice (some ⟨g, 0, none⟩) n n) (bRow n f) :=
  ⟨some ⟨g, 0, none⟩, n, by rw [bRow_len], by rw [bRow_len]; exact Nat.le_refl _, (fun e => by cases e), fun _ => ⟨g, 0, rfl, h.lt, fun i x j u hi hj => by
    have hin : i < n := by have := (List.getElem?_eq_some_iff.1 hi).1; rwa [bRow_len] at this
    have hxi : x = f i := by simp [bRow, hin] at hi; exact hi.symm
    have hj0 : j = 0 := by have := (List.getElem?_eq_some_iff.1 hj).1; simp [bC] at this; exact this
    subst hj0
    have hu : u = .bool x := by simp [bC] at hj; exact hj.symm
    rw [hu, hxi, show 0 + (i * 1 + 0) = i by omega]
    exact h.cell hin⟩⟩
theorem PlIn.setOther {w : World} {g o n c : Nat} {f : Nat → Bool} (h : PlIn w (.slice (some ⟨g, o, none⟩) n c) n f) {b j : Nat} (hb : g < b) (u : Value) : PlIn (w.setCell ⟨b, j, none⟩ u) (.slice (some ⟨g, o, none⟩) n c) n f := by
  obtain ⟨b', o', c', hv, hl, hc⟩ := h
  injection hv with h1 _ _
  injection h1 with h1
  injection h1 with h1 h2 _
  subst h1 h2
  exact ⟨_, _, _, rfl, by simpa [World.setCell] using hl, fun i hi => by
    rw [World.cell?_of_block (w := w) (Below.heap_setCell _ _ _ _ (show g ≠ b by omega))]
    exact hc i hi⟩
theorem pl_cell {w : World} {g o n c : Nat} {f : Nat → Bool} (h : PlIn w (.slice (some ⟨g, o, none⟩) n c) n f) (j : Nat) (hj : j < n) : w.cell? ⟨g, o + j, none⟩ = some (.bool (f j)) := by
  obtain ⟨b', o', c', hv, hl, hc⟩ := h
  injection hv with h1 _ _
  injection h1 with h1
  injection h1 with h1 h2 _
  subst h1 h2
  exact hc j hj

set_option maxRecDepth 100000 in
set_option maxHeartbeats 8000000 in
theorem rreach_any (l : List At) (s : ByteArray) (lv pv : Value) (f : Nat → Bool) (w : World) (hp : RdE atC 34 w lv l) (hpl : RdE bC 1 w pv (bRow (s.size + 1) f)) (hs : s.size ≤ 2147483648) (hl : l.length ≤ 140737488355328) :
    Calls Tryd.prog 67 #[lv, .string s, pv] w (RetReach w (s.size + 1) (reachF s l f)) := by
  obtain ⟨A, c, rfl, hlc, _⟩ := hp.shape
  have HP := Lib.hid hp
  clear hp
  have hu := Tryd.underlying26
  have hi : (Tryd.prog.info? 26).map (·.size) = some 34 := atom_size
  have hmk := fun w => run_make_row' (P := Tryd.prog) 86 4 (.bool false) 1 Tryd.underlying86 bool_info rfl .i64 .i64 (s.size + 1) (by omega) (by omega) w
  rw [show ((s.size + 1 : Nat) : Int) = (s.size : Int) + 1 by omega] at hmk
  obtain ⟨R, HRR⟩ : ∃ R, Hid (R = reachF s l f) := ⟨_, rfl⟩
  rw [← HRR.out]
  have HPL := Lib.hid hpl
  have HR0 : Hid (reachF s (l.drop 0) f = R) := by show _ = _; rw [HRR.out]; rfl
  clear hpl HRR
  go_enter Tryd.func67, Tryd.ntmps67
  go_upto_region 2 with (refine wpList_appE rfl _ (.tmp 12) 86 4 rfl Tryd.underlying86 _ bC 1 1 bool_info rfl (by decide) (fun _ => rfl) bC_one w.heap.size (.slice none 0 0) [] rfl OwnE.nil _ _ rfl HPL.out (by rw [bRow_len]; simp only [List.length_nil]; omega) (by decide) (Nat.le_refl _) ?_; intro v1 w1 hown1 hbel1 hgrow1)
  have HG0 : Hid (PlIn w1 v1 (s.size + 1) f) := rd_pl (OwnE.rd (fun _ => rfl) hown1) (by omega)
  have HB0 := Lib.hid (hbel1 w.heap.size w (Nat.le_refl _) (Below.refl _ _))
  clear hown1 hbel1 hgrow1 HPL
  go_wp2_with fail
  go_loopg [7, 16] l.length (fun n av kv wr => ∃ (k : Nat) (g : Nat → Bool), kv = .int .i64 k ∧ k ≤ l.length ∧ Hid (PlIn wr av (s.size + 1) g) ∧ Hid (reachF s (l.drop k) g = R) ∧ Hid (Below w.heap.size w wr) ∧ l.length - k ≤ n)
  case atStart => exact ⟨0, f, rfl, by omega, HG0.out, HR0.out, HB0.out, by omega⟩
  case round =>
    clear HG0 HB0 HR0
    obtain ⟨k, g, rfl, hk, HG, HX, HB, hgk⟩ := hrel
    by_cases hkl : k < l.length
    · have hki : (k : Int) < (l.length : Int) := by omega
      have hk0 : (0 : Int) ≤ (k : Int) := by omega
      obtain ⟨b, o, rfl, hbl, hcell⟩ := HP.out.cells (by omega)
      have hx : l[k]? = some l[k] := List.getElem?_eq_getElem hkl
      have HX2 : Hid (reachF s (l.drop (k + 1)) (advF l[k] s g) = R) := by
        have h := HX.out
        rw [List.drop_eq_getElem_cons hkl] at h
        exact h
      have HCL : Hid (∀ j v, (atC l[k])[j]? = some v → w.cell? ⟨b, o + k * 34 + j, none⟩ = some v) := fun j v hj => by
        rw [Nat.add_assoc]
        exact hcell k _ j v hx hj
      clear HX hx hcell
      generalize l[k] = x at HX2 HCL
      obtain ⟨hub, HU⟩ : ∃ hub : World, Hid (hub = wr) := ⟨wr, rfl⟩
      clear HU hub
      have hzr := HB.out.size
      obtain ⟨ba, oa, ca, rfl, hba, hca⟩ := HG.out
      go_upto_region 6 with fail
      obtain ⟨N, HN⟩ : ∃ N, Hid (N = wr.heap.size) := ⟨_, rfl⟩
      have hN : w.heap.size ≤ N := by rw [HN.out]; exact hzr
      have hbaN : ba < N := by rw [HN.out]; exact hba
      have HR1 : Hid ((wr.alloc (.cells (madeCells #[.bool false] (s.size + 1)) 4)).rowIs N 4 (s.size + 1) (fun j => .bool (if j ≤ 0 then nxF x s g j else false))) := by
        have h := World.rowIs_made wr (.bool false) (s.size + 1) 4
        rw [← HN.out] at h
        exact h.congr fun j _ => by
          by_cases h0 : j ≤ 0
          · rw [if_pos h0, show j = 0 by omega]; rfl
          · rw [if_neg h0]
      have HG1 : Hid (PlIn (wr.alloc (.cells (madeCells #[.bool false] (s.size + 1)) 4)) (.slice (some ⟨ba, oa, none⟩) (s.size + 1) ca) (s.size + 1) g) := HG.out.below ((Below.refl _ wr).alloc (Nat.le_refl _) _) (Nat.le_refl _)
      have HB1 : Hid (Below w.heap.size w (wr.alloc (.cells (madeCells #[.bool false] (s.size + 1)) 4))) := HB.out.alloc hzr _
      rw [← HN.out]
      clear HG HB hzr hba hca
      generalize wr.alloc (.cells (madeCells #[.bool false] (s.size + 1)) 4) = w2 at HR1 HG1 HB1 ⊢
      clear HN
      go_wp2_with fail
      obtain ⟨wo, rfl⟩ : ∃ wo : World, wo = w2 := ⟨_, rfl⟩
      go_loopg [10] s.size (fun n iv wr => ∃ i : Nat, i ≤ s.size ∧ iv = .int .i64 i ∧ Hid (wr.rowIs N 4 (s.size + 1) (fun j => .bool (if j ≤ i then nxF x s g j else false))) ∧ Hid (PlIn wr (.slice (some ⟨ba, oa, none⟩) (s.size + 1) ca) (s.size + 1) g) ∧ Hid (Below w.heap.size w wr) ∧ s.size - i ≤ n)
      case atStart => exact ⟨0, by omega, rfl, HR1.out, HG1.out, HB1.out, by omega⟩
      case round =>
        clear HR1 HG1 HB1
        obtain ⟨i, hi1, rfl, HR, HG, HB, hgi⟩ := hrel
        by_cases hil : i < s.size
        · have hii : (i : Int) < (s.size : Int) := by omega
          have hi0 : (0 : Int) ≤ (i : Int) := by omega
          have hi2 : (i : Int) < (s.size : Int) + 1 := by omega
          have hi3 : (i : Int) + 1 < (s.size : Int) + 1 := by omega
          have hbl2 : b < wr.heap.size := Nat.lt_of_lt_of_le hbl HB.out.size
          have hrg0 : wr.rangeAt b (o + k * 34) (atC x) := fun j v hj => (HB.out.cell (p := ⟨b, o + k * 34 + j, none⟩) hbl).trans (HCL.out j v hj)
          have hrg : wr.drew.rangeAt b (o + k * 34) (atC x) := hrg0
          have qm : wr.cell? ⟨b, o + k * 34 + 33, none⟩ = some (.bool x.many) := hrg0 33 _ (atC_many x)
          have qa : wr.cell? ⟨ba, oa + i, none⟩ = some (.bool (g i)) := pl_cell HG.out i (by omega)
          have qn := HR.out.cell (i := i) (by omega)
          rw [if_pos (Nat.le_refl _)] at qn
          clear hrg0
          have hia : (Instr.indexAt 28 (.slice (some ⟨b, o, none⟩) l.length c) (.int .i64 k)).run Tryd.prog wr.drew = .ok (.pointer (some ⟨b, o + k * 34, none⟩)) wr.drew := by go_simp
          have hfa : (Instr.fieldAt 26 (.pointer (some ⟨b, o + k * 34, none⟩)) 2).run Tryd.prog wr.drew = .ok (.pointer (some ⟨b, o + k * 34 + 33, none⟩)) wr.drew := by go_simp
          have hla := run_loadAt_mid (P := Tryd.prog) wr.drew b (o + k * 34) 26 (atC x) _ hrg hu rfl (by rw [hi, atC_len])
          have HIA := Lib.hid hia
          have HFA := Lib.hid hfa
          have HLA := Lib.hid hla
          clear hia hfa hla
          obtain ⟨px, HPX⟩ : ∃ px : Bool, Hid (px = x.p (s[i].toNat)) := ⟨x.p (s[i].toNat), rfl⟩
          have HC := Lib.hid (fun w => rcontains_any x (s[i].toNat) w (UInt8.toNat_lt _))
          rw [← HPX.out] at HC
          have HV1 : Hid (nxF x s g (i + 1) = ((g i || (x.many && nxF x s g i)) && px)) := by
            show _ = _
            rw [HPX.out, ← bt_get s i hil]
            rfl
          clear HPX
          obtain ⟨ni, HNI⟩ : ∃ ni, Hid (ni = nxF x s g i) := ⟨_, rfl⟩
          obtain ⟨fi, HFI⟩ : ∃ fi, Hid (fi = g i) := ⟨_, rfl⟩
          obtain ⟨mm, HMM⟩ : ∃ mm, Hid (mm = x.many) := ⟨_, rfl⟩
          rw [← HNI.out] at qn HV1
          rw [← HFI.out] at qa HV1
          rw [← HMM.out] at qm HV1
          clear HNI HFI HMM
          go_upto_region 9 with fail
          cases fi with
          | true =>
            have HV0 : Hid (nxF x s g (i + 1) = (true && px)) := HV1.out
            clear HV1
            refine sw_region_tail 25 (by kernel_rfl) (by kernel_rfl) rfl rfl ?_
            refine sw_take (some 29) rfl (by kernel_rfl) (.slice (some ⟨ba, oa, none⟩) (s.size + 1) ca) (ex_move _ _ rfl (by kernel_rfl)) ?_
            simp only [Act.put, List.setIfInBounds_toArray, List.set_cons_zero, List.set_cons_succ]
            refine sw_take (some 30) rfl (by kernel_rfl) (.int .i64 i) (ex_move _ _ rfl (by kernel_rfl)) ?_
            simp only [Act.put, List.setIfInBounds_toArray, List.set_cons_zero, List.set_cons_succ]
            refine sw_take (some 31) rfl (by kernel_rfl) (.pointer (some ⟨ba, oa + i, none⟩)) (ex_indexAddr 86 _ _ (.slice (some ⟨ba, oa, none⟩) (s.size + 1) ca) (.int .i64 i) _ rfl (by kernel_rfl) (by kernel_rfl) (by go_simp)) ?_
            simp only [Act.put, List.setIfInBounds_toArray, List.set_cons_zero, List.set_cons_succ]
            refine sw_take (some 32) rfl (by kernel_rfl) (.bool true) (ex_load 4 _ (.pointer (some ⟨ba, oa + i, none⟩)) _ rfl (by kernel_rfl) (by go_simp)) ?_
            simp only [Act.put, List.setIfInBounds_toArray, List.set_cons_zero, List.set_cons_succ]
            refine sw_take (some 33) rfl (by kernel_rfl) (.bool true) (ex_move _ _ rfl (by kernel_rfl)) ?_
            simp only [Act.put, List.setIfInBounds_toArray, List.set_cons_zero, List.set_cons_succ]
            refine sw_pass (some 34) rfl (by kernel_rfl) ?_
            simp only [Act.put, List.setIfInBounds_toArray, List.set_cons_zero, List.set_cons_succ]
            refine sw_pass (some 35) rfl (by kernel_rfl) ?_
            simp only [Act.put, List.setIfInBounds_toArray, List.set_cons_zero, List.set_cons_succ]
            refine sw_pass (some 36) rfl (by kernel_rfl) ?_
            simp only [Act.put, List.setIfInBounds_toArray, List.set_cons_zero, List.set_cons_succ]
            refine sw_pass (some 37) rfl (by kernel_rfl) ?_
            simp only [Act.put, List.setIfInBounds_toArray, List.set_cons_zero, List.set_cons_succ]
            refine sw_pass (some 38) rfl (by kernel_rfl) ?_
            simp only [Act.put, List.setIfInBounds_toArray, List.set_cons_zero, List.set_cons_succ]
            refine sw_pass (some 39) rfl (by kernel_rfl) ?_
            simp only [Act.put, List.setIfInBounds_toArray, List.set_cons_zero, List.set_cons_succ]
            refine sw_pass (some 40) rfl (by kernel_rfl) ?_
            simp only [Act.put, List.setIfInBounds_toArray, List.set_cons_zero, List.set_cons_succ]
            refine sw_pass (some 41) rfl (by kernel_rfl) ?_
            simp only [Act.put, List.setIfInBounds_toArray, List.set_cons_zero, List.set_cons_succ]
            refine sw_pass (some 42) rfl (by kernel_rfl) ?_
            simp only [Act.put, List.setIfInBounds_toArray, List.set_cons_zero, List.set_cons_succ]
            refine sw_pass (some 43) rfl (by kernel_rfl) ?_
            simp only [Act.put, List.setIfInBounds_toArray, List.set_cons_zero, List.set_cons_succ]
            refine sw_pass (some 44) rfl (by kernel_rfl) ?_
            simp only [Act.put, List.setIfInBounds_toArray, List.set_cons_zero, List.set_cons_succ]
            refine sw_take (some 45) rfl (by kernel_rfl) (.bool true) (ex_pick _ _ _ true (.bool true) (undef) rfl (by kernel_rfl) (by kernel_rfl) (by kernel_rfl)) ?_
            simp only [Act.put, List.setIfInBounds_toArray, List.set_cons_zero, List.set_cons_succ]
            refine sw_take (some 46) rfl (by kernel_rfl) (.bool true) (ex_move _ _ rfl (by kernel_rfl)) ?_
            simp only [Act.put, List.setIfInBounds_toArray, List.set_cons_zero, List.set_cons_succ]
            refine sw_take (some 47) rfl (by kernel_rfl) (.slice (some ⟨b, o, none⟩) l.length c) (ex_move _ _ rfl (by kernel_rfl)) ?_
            simp only [Act.put, List.setIfInBounds_toArray, List.set_cons_zero, List.set_cons_succ]
            refine sw_take (some 48) rfl (by kernel_rfl) (.int .i64 k) (ex_move _ _ rfl (by kernel_rfl)) ?_
            simp only [Act.put, List.setIfInBounds_toArray, List.set_cons_zero, List.set_cons_succ]
            refine sw_take (some 49) rfl (by kernel_rfl) (.pointer (some ⟨b, o + k * 34, none⟩)) (ex_indexAddr 28 _ _ (.slice (some ⟨b, o, none⟩) l.length c) (.int .i64 k) _ rfl (by kernel_rfl) (by kernel_rfl) (HIA.out)) ?_
            simp only [Act.put, List.setIfInBounds_toArray, List.set_cons_zero, List.set_cons_succ]
            refine sw_take (some 50) rfl (by kernel_rfl) (.agg (atC x).toArray) (ex_load 26 _ (.pointer (some ⟨b, o + k * 34, none⟩)) _ rfl (by kernel_rfl) (HLA.out)) ?_
            simp only [Act.put, List.setIfInBounds_toArray, List.set_cons_zero, List.set_cons_succ]
            refine sw_take (some 51) rfl (by kernel_rfl) (.string s) (ex_move _ _ rfl (by kernel_rfl)) ?_
            simp only [Act.put, List.setIfInBounds_toArray, List.set_cons_zero, List.set_cons_succ]
            refine sw_take (some 52) rfl (by kernel_rfl) (.int .i64 i) (ex_move _ _ rfl (by kernel_rfl)) ?_
            simp only [Act.put, List.setIfInBounds_toArray, List.set_cons_zero, List.set_cons_succ]
            refine sw_take (some 53) rfl (by kernel_rfl) (.int .u8 (s[i].toNat)) (ex_index 9 _ _ (.string s) (.int .i64 i) _ rfl (by kernel_rfl) (by kernel_rfl) (by go_simp)) ?_
            simp only [Act.put, List.setIfInBounds_toArray, List.set_cons_zero, List.set_cons_succ]
            refine sw_nil ?_
            change wpList _ _ _ _ _ wr.drew
            have HR6 : Hid (wr.drew.rowIs N 4 (s.size + 1) (fun j => .bool (if j ≤ i then nxF x s g j else false))) := HR.out.drew
            have HG6 : Hid (PlIn wr.drew (.slice (some ⟨ba, oa, none⟩) (s.size + 1) ca) (s.size + 1) g) := HG.out
            have HB6 : Hid (Below w.heap.size w wr.drew) := HB.out.drew
            clear HR HG HB hrg qa qn qm
            generalize wr.drew = w6 at HR6 HG6 HB6 ⊢
            have hz6 := HR6.out.lt
            go_upto_if 55 with (go_at_call 93; refine (HC.out _).mono ?_; rintro e w7 ⟨rfl, hb7⟩)
            have HR7 := Lib.hid (HR6.out.of_block (hb7.block _ hz6))
            have HG7 := Lib.hid (HG6.out.below hb7 (Nat.le_refl _))
            have HB7 := Lib.hid (HB6.out.trans (hb7.mono HB6.out.size))
            clear HR6 HG6 HB6 hb7 HC
            have r0 := HR7.out.cell (i := i + 1) (by omega)
            have rf := HR7.out.frozen (i + 1)
            rw [if_neg (by omega)] at r0
            cases px with
            | false =>
              have HV : Hid (nxF x s g (i + 1) = false) := by show _ = _; rw [HV0.out]; exact Bool.and_false _
              clear r0 rf
              go_wp2_with fail
              have HRE : Hid (w7.rowIs N 4 (s.size + 1) (fun j => .bool (if j ≤ i + 1 then nxF x s g j else false))) := HR7.out.congr fun j hj => by
                by_cases h1 : j = i + 1
                · rw [if_neg (by omega), if_pos (by omega), h1, HV.out]
                · by_cases h2 : j ≤ i
                  · rw [if_pos h2, if_pos (by omega)]
                  · rw [if_neg h2, if_neg (by omega)]
              go_roundg (s.size - (i + 1))
              case measure => omega
              case rel => exact ⟨i + 1, by omega, by go_num, HRE.out, HG7.out, HB7.out, Nat.le_refl _⟩
            | true =>
              have HV : Hid (nxF x s g (i + 1) = true) := by show _ = _; rw [HV0.out]; exact Bool.and_true _
              go_wp2_with fail
              have HRE : Hid ((w7.setCell ⟨N, i + 1, none⟩ (.bool true)).rowIs N 4 (s.size + 1) (fun j => .bool (if j ≤ i + 1 then nxF x s g j else false))) := (HR7.out.set (i + 1) (.bool true)).congr fun j hj => by
                by_cases h1 : j = i + 1
                · rw [if_pos h1, if_pos (by omega), h1, HV.out]
                · by_cases h2 : j ≤ i
                  · rw [if_neg h1, if_pos h2, if_pos (by omega)]
                  · rw [if_neg h1, if_neg h2, if_neg (by omega)]
              go_roundg (s.size - (i + 1))
              case measure => omega
              case rel => exact ⟨i + 1, by omega, by go_num, HRE.out, HG7.out.setOther (by omega) _, HB7.out.setCell (p := ⟨N, i + 1, none⟩) hN _, Nat.le_refl _⟩
          | false =>
            cases mm with
            | false =>
              have HV : Hid (nxF x s g (i + 1) = false) := HV1.out
              refine sw_region_tail 25 (by kernel_rfl) (by kernel_rfl) rfl rfl ?_
              refine sw_take (some 29) rfl (by kernel_rfl) (.slice (some ⟨ba, oa, none⟩) (s.size + 1) ca) (ex_move _ _ rfl (by kernel_rfl)) ?_
              simp only [Act.put, List.setIfInBounds_toArray, List.set_cons_zero, List.set_cons_succ]
              refine sw_take (some 30) rfl (by kernel_rfl) (.int .i64 i) (ex_move _ _ rfl (by kernel_rfl)) ?_
              simp only [Act.put, List.setIfInBounds_toArray, List.set_cons_zero, List.set_cons_succ]
              refine sw_take (some 31) rfl (by kernel_rfl) (.pointer (some ⟨ba, oa + i, none⟩)) (ex_indexAddr 86 _ _ (.slice (some ⟨ba, oa, none⟩) (s.size + 1) ca) (.int .i64 i) _ rfl (by kernel_rfl) (by kernel_rfl) (by go_simp)) ?_
              simp only [Act.put, List.setIfInBounds_toArray, List.set_cons_zero, List.set_cons_succ]
              refine sw_take (some 32) rfl (by kernel_rfl) (.bool false) (ex_load 4 _ (.pointer (some ⟨ba, oa + i, none⟩)) _ rfl (by kernel_rfl) (by go_simp)) ?_
              simp only [Act.put, List.setIfInBounds_toArray, List.set_cons_zero, List.set_cons_succ]
              refine sw_take (some 33) rfl (by kernel_rfl) (.bool false) (ex_move _ _ rfl (by kernel_rfl)) ?_
              simp only [Act.put, List.setIfInBounds_toArray, List.set_cons_zero, List.set_cons_succ]
              refine sw_take (some 34) rfl (by kernel_rfl) (.slice (some ⟨b, o, none⟩) l.length c) (ex_move _ _ rfl (by kernel_rfl)) ?_
              simp only [Act.put, List.setIfInBounds_toArray, List.set_cons_zero, List.set_cons_succ]
              refine sw_take (some 35) rfl (by kernel_rfl) (.int .i64 k) (ex_move _ _ rfl (by kernel_rfl)) ?_
              simp only [Act.put, List.setIfInBounds_toArray, List.set_cons_zero, List.set_cons_succ]
              refine sw_take (some 36) rfl (by kernel_rfl) (.pointer (some ⟨b, o + k * 34, none⟩)) (ex_indexAddr 28 _ _ (.slice (some ⟨b, o, none⟩) l.length c) (.int .i64 k) _ rfl (by kernel_rfl) (by kernel_rfl) (HIA.out)) ?_
              simp only [Act.put, List.setIfInBounds_toArray, List.set_cons_zero, List.set_cons_succ]
              refine sw_take (some 37) rfl (by kernel_rfl) (.pointer (some ⟨b, o + k * 34 + 33, none⟩)) (ex_fieldAddr 26 _ 2 (.pointer (some ⟨b, o + k * 34, none⟩)) _ rfl (by kernel_rfl) (HFA.out)) ?_
              simp only [Act.put, List.setIfInBounds_toArray, List.set_cons_zero, List.set_cons_succ]
              refine sw_take (some 38) rfl (by kernel_rfl) (.bool false) (ex_load 4 _ (.pointer (some ⟨b, o + k * 34 + 33, none⟩)) _ rfl (by kernel_rfl) (by go_simp)) ?_
              simp only [Act.put, List.setIfInBounds_toArray, List.set_cons_zero, List.set_cons_succ]
              refine sw_take (some 39) rfl (by kernel_rfl) (.bool false) (ex_move _ _ rfl (by kernel_rfl)) ?_
              simp only [Act.put, List.setIfInBounds_toArray, List.set_cons_zero, List.set_cons_succ]
              refine sw_pass (some 40) rfl (by kernel_rfl) ?_
              simp only [Act.put, List.setIfInBounds_toArray, List.set_cons_zero, List.set_cons_succ]
              refine sw_pass (some 41) rfl (by kernel_rfl) ?_
              simp only [Act.put, List.setIfInBounds_toArray, List.set_cons_zero, List.set_cons_succ]
              refine sw_pass (some 42) rfl (by kernel_rfl) ?_
              simp only [Act.put, List.setIfInBounds_toArray, List.set_cons_zero, List.set_cons_succ]
              refine sw_pass (some 43) rfl (by kernel_rfl) ?_
              simp only [Act.put, List.setIfInBounds_toArray, List.set_cons_zero, List.set_cons_succ]
              refine sw_take (some 44) rfl (by kernel_rfl) (.bool false) (ex_pick _ _ _ false (undef) (.bool false) rfl (by kernel_rfl) (by kernel_rfl) (by kernel_rfl)) ?_
              simp only [Act.put, List.setIfInBounds_toArray, List.set_cons_zero, List.set_cons_succ]
              refine sw_take (some 45) rfl (by kernel_rfl) (.bool false) (ex_pick _ _ _ false (.bool true) (.bool false) rfl (by kernel_rfl) (by kernel_rfl) (by kernel_rfl)) ?_
              simp only [Act.put, List.setIfInBounds_toArray, List.set_cons_zero, List.set_cons_succ]
              refine sw_take (some 46) rfl (by kernel_rfl) (.bool false) (ex_move _ _ rfl (by kernel_rfl)) ?_
              simp only [Act.put, List.setIfInBounds_toArray, List.set_cons_zero, List.set_cons_succ]
              refine sw_pass (some 47) rfl (by kernel_rfl) ?_
              simp only [Act.put, List.setIfInBounds_toArray, List.set_cons_zero, List.set_cons_succ]
              refine sw_pass (some 48) rfl (by kernel_rfl) ?_
              simp only [Act.put, List.setIfInBounds_toArray, List.set_cons_zero, List.set_cons_succ]
              refine sw_pass (some 49) rfl (by kernel_rfl) ?_
              simp only [Act.put, List.setIfInBounds_toArray, List.set_cons_zero, List.set_cons_succ]
              refine sw_pass (some 50) rfl (by kernel_rfl) ?_
              simp only [Act.put, List.setIfInBounds_toArray, List.set_cons_zero, List.set_cons_succ]
              refine sw_pass (some 51) rfl (by kernel_rfl) ?_
              simp only [Act.put, List.setIfInBounds_toArray, List.set_cons_zero, List.set_cons_succ]
              refine sw_pass (some 52) rfl (by kernel_rfl) ?_
              simp only [Act.put, List.setIfInBounds_toArray, List.set_cons_zero, List.set_cons_succ]
              refine sw_pass (some 53) rfl (by kernel_rfl) ?_
              simp only [Act.put, List.setIfInBounds_toArray, List.set_cons_zero, List.set_cons_succ]
              refine sw_nil ?_
              change wpList _ _ _ _ _ wr.drew
              have HR6 : Hid (wr.drew.rowIs N 4 (s.size + 1) (fun j => .bool (if j ≤ i then nxF x s g j else false))) := HR.out.drew
              have HG6 : Hid (PlIn wr.drew (.slice (some ⟨ba, oa, none⟩) (s.size + 1) ca) (s.size + 1) g) := HG.out
              have HB6 : Hid (Below w.heap.size w wr.drew) := HB.out.drew
              clear hrg qa qm qn HR HG HB
              generalize wr.drew = w6 at HR6 HG6 HB6 ⊢
              go_wp2_with fail
              have HRE : Hid (w6.rowIs N 4 (s.size + 1) (fun j => .bool (if j ≤ i + 1 then nxF x s g j else false))) := HR6.out.congr fun j hj => by
                by_cases h1 : j = i + 1
                · rw [if_neg (by omega), if_pos (by omega), h1, HV.out]
                · by_cases h2 : j ≤ i
                  · rw [if_pos h2, if_pos (by omega)]
                  · rw [if_neg h2, if_neg (by omega)]
              go_roundg (s.size - (i + 1))
              case measure => omega
              case rel => exact ⟨i + 1, by omega, by go_num, HRE.out, HG6.out, HB6.out, Nat.le_refl _⟩
            | true =>
              cases ni with
              | false =>
                have HV : Hid (nxF x s g (i + 1) = false) := HV1.out
                refine sw_region_tail 25 (by kernel_rfl) (by kernel_rfl) rfl rfl ?_
                refine sw_take (some 29) rfl (by kernel_rfl) (.slice (some ⟨ba, oa, none⟩) (s.size + 1) ca) (ex_move _ _ rfl (by kernel_rfl)) ?_
                simp only [Act.put, List.setIfInBounds_toArray, List.set_cons_zero, List.set_cons_succ]
                refine sw_take (some 30) rfl (by kernel_rfl) (.int .i64 i) (ex_move _ _ rfl (by kernel_rfl)) ?_
                simp only [Act.put, List.setIfInBounds_toArray, List.set_cons_zero, List.set_cons_succ]
                refine sw_take (some 31) rfl (by kernel_rfl) (.pointer (some ⟨ba, oa + i, none⟩)) (ex_indexAddr 86 _ _ (.slice (some ⟨ba, oa, none⟩) (s.size + 1) ca) (.int .i64 i) _ rfl (by kernel_rfl) (by kernel_rfl) (by go_simp)) ?_
                simp only [Act.put, List.setIfInBounds_toArray, List.set_cons_zero, List.set_cons_succ]
                refine sw_take (some 32) rfl (by kernel_rfl) (.bool false) (ex_load 4 _ (.pointer (some ⟨ba, oa + i, none⟩)) _ rfl (by kernel_rfl) (by go_simp)) ?_
                simp only [Act.put, List.setIfInBounds_toArray, List.set_cons_zero, List.set_cons_succ]
                refine sw_take (some 33) rfl (by kernel_rfl) (.bool false) (ex_move _ _ rfl (by kernel_rfl)) ?_
                simp only [Act.put, List.setIfInBounds_toArray, List.set_cons_zero, List.set_cons_succ]
                refine sw_take (some 34) rfl (by kernel_rfl) (.slice (some ⟨b, o, none⟩) l.length c) (ex_move _ _ rfl (by kernel_rfl)) ?_
                simp only [Act.put, List.setIfInBounds_toArray, List.set_cons_zero, List.set_cons_succ]
                refine sw_take (some 35) rfl (by kernel_rfl) (.int .i64 k) (ex_move _ _ rfl (by kernel_rfl)) ?_
                simp only [Act.put, List.setIfInBounds_toArray, List.set_cons_zero, List.set_cons_succ]
                refine sw_take (some 36) rfl (by kernel_rfl) (.pointer (some ⟨b, o + k * 34, none⟩)) (ex_indexAddr 28 _ _ (.slice (some ⟨b, o, none⟩) l.length c) (.int .i64 k) _ rfl (by kernel_rfl) (by kernel_rfl) (HIA.out)) ?_
                simp only [Act.put, List.setIfInBounds_toArray, List.set_cons_zero, List.set_cons_succ]
                refine sw_take (some 37) rfl (by kernel_rfl) (.pointer (some ⟨b, o + k * 34 + 33, none⟩)) (ex_fieldAddr 26 _ 2 (.pointer (some ⟨b, o + k * 34, none⟩)) _ rfl (by kernel_rfl) (HFA.out)) ?_
                simp only [Act.put, List.setIfInBounds_toArray, List.set_cons_zero, List.set_cons_succ]
                refine sw_take (some 38) rfl (by kernel_rfl) (.bool true) (ex_load 4 _ (.pointer (some ⟨b, o + k * 34 + 33, none⟩)) _ rfl (by kernel_rfl) (by go_simp)) ?_
                simp only [Act.put, List.setIfInBounds_toArray, List.set_cons_zero, List.set_cons_succ]
                refine sw_take (some 39) rfl (by kernel_rfl) (.bool true) (ex_move _ _ rfl (by kernel_rfl)) ?_
                simp only [Act.put, List.setIfInBounds_toArray, List.set_cons_zero, List.set_cons_succ]
                refine sw_take (some 40) rfl (by kernel_rfl) (.slice (some ⟨N, 0, none⟩) (s.size + 1) (s.size + 1)) (ex_move _ _ rfl (by kernel_rfl)) ?_
                simp only [Act.put, List.setIfInBounds_toArray, List.set_cons_zero, List.set_cons_succ]
                refine sw_take (some 41) rfl (by kernel_rfl) (.int .i64 i) (ex_move _ _ rfl (by kernel_rfl)) ?_
                simp only [Act.put, List.setIfInBounds_toArray, List.set_cons_zero, List.set_cons_succ]
                refine sw_take (some 42) rfl (by kernel_rfl) (.pointer (some ⟨N, i, none⟩)) (ex_indexAddr 86 _ _ (.slice (some ⟨N, 0, none⟩) (s.size + 1) (s.size + 1)) (.int .i64 i) _ rfl (by kernel_rfl) (by kernel_rfl) (by go_simp)) ?_
                simp only [Act.put, List.setIfInBounds_toArray, List.set_cons_zero, List.set_cons_succ]
                refine sw_take (some 43) rfl (by kernel_rfl) (.bool false) (ex_load 4 _ (.pointer (some ⟨N, i, none⟩)) _ rfl (by kernel_rfl) (by go_simp)) ?_
                simp only [Act.put, List.setIfInBounds_toArray, List.set_cons_zero, List.set_cons_succ]
                refine sw_take (some 44) rfl (by kernel_rfl) (.bool false) (ex_pick _ _ _ true (.bool false) (.bool false) rfl (by kernel_rfl) (by kernel_rfl) (by kernel_rfl)) ?_
                simp only [Act.put, List.setIfInBounds_toArray, List.set_cons_zero, List.set_cons_succ]
                refine sw_take (some 45) rfl (by kernel_rfl) (.bool false) (ex_pick _ _ _ false (.bool true) (.bool false) rfl (by kernel_rfl) (by kernel_rfl) (by kernel_rfl)) ?_
                simp only [Act.put, List.setIfInBounds_toArray, List.set_cons_zero, List.set_cons_succ]
                refine sw_take (some 46) rfl (by kernel_rfl) (.bool false) (ex_move _ _ rfl (by kernel_rfl)) ?_
                simp only [Act.put, List.setIfInBounds_toArray, List.set_cons_zero, List.set_cons_succ]
                refine sw_pass (some 47) rfl (by kernel_rfl) ?_
                simp only [Act.put, List.setIfInBounds_toArray, List.set_cons_zero, List.set_cons_succ]
                refine sw_pass (some 48) rfl (by kernel_rfl) ?_
                simp only [Act.put, List.setIfInBounds_toArray, List.set_cons_zero, List.set_cons_succ]
                refine sw_pass (some 49) rfl (by kernel_rfl) ?_
                simp only [Act.put, List.setIfInBounds_toArray, List.set_cons_zero, List.set_cons_succ]
                refine sw_pass (some 50) rfl (by kernel_rfl) ?_
                simp only [Act.put, List.setIfInBounds_toArray, List.set_cons_zero, List.set_cons_succ]
                refine sw_pass (some 51) rfl (by kernel_rfl) ?_
                simp only [Act.put, List.setIfInBounds_toArray, List.set_cons_zero, List.set_cons_succ]
                refine sw_pass (some 52) rfl (by kernel_rfl) ?_
                simp only [Act.put, List.setIfInBounds_toArray, List.set_cons_zero, List.set_cons_succ]
                refine sw_pass (some 53) rfl (by kernel_rfl) ?_
                simp only [Act.put, List.setIfInBounds_toArray, List.set_cons_zero, List.set_cons_succ]
                refine sw_nil ?_
                change wpList _ _ _ _ _ wr.drew
                have HR6 : Hid (wr.drew.rowIs N 4 (s.size + 1) (fun j => .bool (if j ≤ i then nxF x s g j else false))) := HR.out.drew
                have HG6 : Hid (PlIn wr.drew (.slice (some ⟨ba, oa, none⟩) (s.size + 1) ca) (s.size + 1) g) := HG.out
                have HB6 : Hid (Below w.heap.size w wr.drew) := HB.out.drew
                clear hrg qa qm qn HR HG HB
                generalize wr.drew = w6 at HR6 HG6 HB6 ⊢
                go_wp2_with fail
                have HRE : Hid (w6.rowIs N 4 (s.size + 1) (fun j => .bool (if j ≤ i + 1 then nxF x s g j else false))) := HR6.out.congr fun j hj => by
                  by_cases h1 : j = i + 1
                  · rw [if_neg (by omega), if_pos (by omega), h1, HV.out]
                  · by_cases h2 : j ≤ i
                    · rw [if_pos h2, if_pos (by omega)]
                    · rw [if_neg h2, if_neg (by omega)]
                go_roundg (s.size - (i + 1))
                case measure => omega
                case rel => exact ⟨i + 1, by omega, by go_num, HRE.out, HG6.out, HB6.out, Nat.le_refl _⟩
              | true =>
                have HV0 : Hid (nxF x s g (i + 1) = (true && px)) := HV1.out
                clear HV1
                refine sw_region_tail 25 (by kernel_rfl) (by kernel_rfl) rfl rfl ?_
                refine sw_take (some 29) rfl (by kernel_rfl) (.slice (some ⟨ba, oa, none⟩) (s.size + 1) ca) (ex_move _ _ rfl (by kernel_rfl)) ?_
                simp only [Act.put, List.setIfInBounds_toArray, List.set_cons_zero, List.set_cons_succ]
                refine sw_take (some 30) rfl (by kernel_rfl) (.int .i64 i) (ex_move _ _ rfl (by kernel_rfl)) ?_
                simp only [Act.put, List.setIfInBounds_toArray, List.set_cons_zero, List.set_cons_succ]
                refine sw_take (some 31) rfl (by kernel_rfl) (.pointer (some ⟨ba, oa + i, none⟩)) (ex_indexAddr 86 _ _ (.slice (some ⟨ba, oa, none⟩) (s.size + 1) ca) (.int .i64 i) _ rfl (by kernel_rfl) (by kernel_rfl) (by go_simp)) ?_
                simp only [Act.put, List.setIfInBounds_toArray, List.set_cons_zero, List.set_cons_succ]
                refine sw_take (some 32) rfl (by kernel_rfl) (.bool false) (ex_load 4 _ (.pointer (some ⟨ba, oa + i, none⟩)) _ rfl (by kernel_rfl) (by go_simp)) ?_
                simp only [Act.put, List.setIfInBounds_toArray, List.set_cons_zero, List.set_cons_succ]
                refine sw_take (some 33) rfl (by kernel_rfl) (.bool false) (ex_move _ _ rfl (by kernel_rfl)) ?_
                simp only [Act.put, List.setIfInBounds_toArray, List.set_cons_zero, List.set_cons_succ]
                refine sw_take (some 34) rfl (by kernel_rfl) (.slice (some ⟨b, o, none⟩) l.length c) (ex_move _ _ rfl (by kernel_rfl)) ?_
                simp only [Act.put, List.setIfInBounds_toArray, List.set_cons_zero, List.set_cons_succ]
                refine sw_take (some 35) rfl (by kernel_rfl) (.int .i64 k) (ex_move _ _ rfl (by kernel_rfl)) ?_
                simp only [Act.put, List.setIfInBounds_toArray, List.set_cons_zero, List.set_cons_succ]
                refine sw_take (some 36) rfl (by kernel_rfl) (.pointer (some ⟨b, o + k * 34, none⟩)) (ex_indexAddr 28 _ _ (.slice (some ⟨b, o, none⟩) l.length c) (.int .i64 k) _ rfl (by kernel_rfl) (by kernel_rfl) (HIA.out)) ?_
                simp only [Act.put, List.setIfInBounds_toArray, List.set_cons_zero, List.set_cons_succ]
                refine sw_take (some 37) rfl (by kernel_rfl) (.pointer (some ⟨b, o + k * 34 + 33, none⟩)) (ex_fieldAddr 26 _ 2 (.pointer (some ⟨b, o + k * 34, none⟩)) _ rfl (by kernel_rfl) (HFA.out)) ?_
                simp only [Act.put, List.setIfInBounds_toArray, List.set_cons_zero, List.set_cons_succ]
                refine sw_take (some 38) rfl (by kernel_rfl) (.bool true) (ex_load 4 _ (.pointer (some ⟨b, o + k * 34 + 33, none⟩)) _ rfl (by kernel_rfl) (by go_simp)) ?_
                simp only [Act.put, List.setIfInBounds_toArray, List.set_cons_zero, List.set_cons_succ]
                refine sw_take (some 39) rfl (by kernel_rfl) (.bool true) (ex_move _ _ rfl (by kernel_rfl)) ?_
                simp only [Act.put, List.setIfInBounds_toArray, List.set_cons_zero, List.set_cons_succ]
                refine sw_take (some 40) rfl (by kernel_rfl) (.slice (some ⟨N, 0, none⟩) (s.size + 1) (s.size + 1)) (ex_move _ _ rfl (by kernel_rfl)) ?_
                simp only [Act.put, List.setIfInBounds_toArray, List.set_cons_zero, List.set_cons_succ]
                refine sw_take (some 41) rfl (by kernel_rfl) (.int .i64 i) (ex_move _ _ rfl (by kernel_rfl)) ?_
                simp only [Act.put, List.setIfInBounds_toArray, List.set_cons_zero, List.set_cons_succ]
                refine sw_take (some 42) rfl (by kernel_rfl) (.pointer (some ⟨N, i, none⟩)) (ex_indexAddr 86 _ _ (.slice (some ⟨N, 0, none⟩) (s.size + 1) (s.size + 1)) (.int .i64 i) _ rfl (by kernel_rfl) (by kernel_rfl) (by go_simp)) ?_
                simp only [Act.put, List.setIfInBounds_toArray, List.set_cons_zero, List.set_cons_succ]
                refine sw_take (some 43) rfl (by kernel_rfl) (.bool true) (ex_load 4 _ (.pointer (some ⟨N, i, none⟩)) _ rfl (by kernel_rfl) (by go_simp)) ?_
                simp only [Act.put, List.setIfInBounds_toArray, List.set_cons_zero, List.set_cons_succ]
                refine sw_take (some 44) rfl (by kernel_rfl) (.bool true) (ex_pick _ _ _ true (.bool true) (.bool false) rfl (by kernel_rfl) (by kernel_rfl) (by kernel_rfl)) ?_
                simp only [Act.put, List.setIfInBounds_toArray, List.set_cons_zero, List.set_cons_succ]
                refine sw_take (some 45) rfl (by kernel_rfl) (.bool true) (ex_pick _ _ _ false (.bool true) (.bool true) rfl (by kernel_rfl) (by kernel_rfl) (by kernel_rfl)) ?_
                simp only [Act.put, List.setIfInBounds_toArray, List.set_cons_zero, List.set_cons_succ]
                refine sw_take (some 46) rfl (by kernel_rfl) (.bool true) (ex_move _ _ rfl (by kernel_rfl)) ?_
                simp only [Act.put, List.setIfInBounds_toArray, List.set_cons_zero, List.set_cons_succ]
                refine sw_take (some 47) rfl (by kernel_rfl) (.slice (some ⟨b, o, none⟩) l.length c) (ex_move _ _ rfl (by kernel_rfl)) ?_
                simp only [Act.put, List.setIfInBounds_toArray, List.set_cons_zero, List.set_cons_succ]
                refine sw_take (some 48) rfl (by kernel_rfl) (.int .i64 k) (ex_move _ _ rfl (by kernel_rfl)) ?_
                simp only [Act.put, List.setIfInBounds_toArray, List.set_cons_zero, List.set_cons_succ]
                refine sw_take (some 49) rfl (by kernel_rfl) (.pointer (some ⟨b, o + k * 34, none⟩)) (ex_indexAddr 28 _ _ (.slice (some ⟨b, o, none⟩) l.length c) (.int .i64 k) _ rfl (by kernel_rfl) (by kernel_rfl) (HIA.out)) ?_
                simp only [Act.put, List.setIfInBounds_toArray, List.set_cons_zero, List.set_cons_succ]
                refine sw_take (some 50) rfl (by kernel_rfl) (.agg (atC x).toArray) (ex_load 26 _ (.pointer (some ⟨b, o + k * 34, none⟩)) _ rfl (by kernel_rfl) (HLA.out)) ?_
                simp only [Act.put, List.setIfInBounds_toArray, List.set_cons_zero, List.set_cons_succ]
                refine sw_take (some 51) rfl (by kernel_rfl) (.string s) (ex_move _ _ rfl (by kernel_rfl)) ?_
                simp only [Act.put, List.setIfInBounds_toArray, List.set_cons_zero, List.set_cons_succ]
                refine sw_take (some 52) rfl (by kernel_rfl) (.int .i64 i) (ex_move _ _ rfl (by kernel_rfl)) ?_
                simp only [Act.put, List.setIfInBounds_toArray, List.set_cons_zero, List.set_cons_succ]
                refine sw_take (some 53) rfl (by kernel_rfl) (.int .u8 (s[i].toNat)) (ex_index 9 _ _ (.string s) (.int .i64 i) _ rfl (by kernel_rfl) (by kernel_rfl) (by go_simp)) ?_
                simp only [Act.put, List.setIfInBounds_toArray, List.set_cons_zero, List.set_cons_succ]
                refine sw_nil ?_
                change wpList _ _ _ _ _ wr.drew
                have HR6 : Hid (wr.drew.rowIs N 4 (s.size + 1) (fun j => .bool (if j ≤ i then nxF x s g j else false))) := HR.out.drew
                have HG6 : Hid (PlIn wr.drew (.slice (some ⟨ba, oa, none⟩) (s.size + 1) ca) (s.size + 1) g) := HG.out
                have HB6 : Hid (Below w.heap.size w wr.drew) := HB.out.drew
                clear HR HG HB hrg qa qn qm
                generalize wr.drew = w6 at HR6 HG6 HB6 ⊢
                have hz6 := HR6.out.lt
                go_upto_if 55 with (go_at_call 93; refine (HC.out _).mono ?_; rintro e w7 ⟨rfl, hb7⟩)
                have HR7 := Lib.hid (HR6.out.of_block (hb7.block _ hz6))
                have HG7 := Lib.hid (HG6.out.below hb7 (Nat.le_refl _))
                have HB7 := Lib.hid (HB6.out.trans (hb7.mono HB6.out.size))
                clear HR6 HG6 HB6 hb7 HC
                have r0 := HR7.out.cell (i := i + 1) (by omega)
                have rf := HR7.out.frozen (i + 1)
                rw [if_neg (by omega)] at r0
                cases px with
                | false =>
                  have HV : Hid (nxF x s g (i + 1) = false) := by show _ = _; rw [HV0.out]; exact Bool.and_false _
                  clear r0 rf
                  go_wp2_with fail
                  have HRE : Hid (w7.rowIs N 4 (s.size + 1) (fun j => .bool (if j ≤ i + 1 then nxF x s g j else false))) := HR7.out.congr fun j hj => by
                    by_cases h1 : j = i + 1
                    · rw [if_neg (by omega), if_pos (by omega), h1, HV.out]
                    · by_cases h2 : j ≤ i
                      · rw [if_pos h2, if_pos (by omega)]
                      · rw [if_neg h2, if_neg (by omega)]
                  go_roundg (s.size - (i + 1))
                  case measure => omega
                  case rel => exact ⟨i + 1, by omega, by go_num, HRE.out, HG7.out, HB7.out, Nat.le_refl _⟩
                | true =>
                  have HV : Hid (nxF x s g (i + 1) = true) := by show _ = _; rw [HV0.out]; exact Bool.and_true _
                  go_wp2_with fail
                  have HRE : Hid ((w7.setCell ⟨N, i + 1, none⟩ (.bool true)).rowIs N 4 (s.size + 1) (fun j => .bool (if j ≤ i + 1 then nxF x s g j else false))) := (HR7.out.set (i + 1) (.bool true)).congr fun j hj => by
                    by_cases h1 : j = i + 1
                    · rw [if_pos h1, if_pos (by omega), h1, HV.out]
                    · by_cases h2 : j ≤ i
                      · rw [if_neg h1, if_pos h2, if_pos (by omega)]
                      · rw [if_neg h1, if_neg h2, if_neg (by omega)]
                  go_roundg (s.size - (i + 1))
                  case measure => omega
                  case rel => exact ⟨i + 1, by omega, by go_num, HRE.out, HG7.out.setOther (by omega) _, HB7.out.setCell (p := ⟨N, i + 1, none⟩) hN _, Nat.le_refl _⟩
        · obtain rfl : i = s.size := by omega
          have hii : ¬ (s.size : Int) < (s.size : Int) := by omega
          have HR2 : Hid (wr.rowIs N 4 (s.size + 1) (fun j => .bool (if j < 0 then advF x s g j else nxF x s g j))) := HR.out.congr fun j hj => by rw [if_pos (by omega), if_neg (by omega)]
          clear HR
          go_wp2_with fail
          obtain ⟨wp, rfl⟩ : ∃ wp : World, wp = wr := ⟨_, rfl⟩
          go_loopg [62] (s.size + 1) (fun n iv wr => ∃ i : Nat, i ≤ s.size + 1 ∧ iv = .int .i64 i ∧ Hid (wr.rowIs N 4 (s.size + 1) (fun j => .bool (if j < i then advF x s g j else nxF x s g j))) ∧ Hid (PlIn wr (.slice (some ⟨ba, oa, none⟩) (s.size + 1) ca) (s.size + 1) g) ∧ Hid (Below w.heap.size w wr) ∧ s.size + 1 - i ≤ n)
          case atStart => exact ⟨0, by omega, rfl, HR2.out, HG.out, HB.out, by omega⟩
          case round =>
            clear HR2 HG HB
            obtain ⟨i, hi1, rfl, HR, HG, HB, hgi⟩ := hrel
            by_cases hil : i < s.size + 1
            · have hi2 : (i : Int) < (s.size : Int) + 1 := by omega
              have qm : wr.cell? ⟨b, o + k * 34 + 32, none⟩ = some (.int .i64 x.mn) := (HB.out.cell (p := ⟨b, o + k * 34 + 32, none⟩) hbl).trans (HCL.out 32 _ (atC_mn x))
              have qa : wr.cell? ⟨ba, oa + i, none⟩ = some (.bool (g i)) := pl_cell HG.out i (by omega)
              have qn := HR.out.cell (i := i) (by omega)
              rw [if_neg (Nat.lt_irrefl _)] at qn
              have rf := HR.out.frozen i
              have HV1 : Hid (advF x s g i = (nxF x s g i || (decide (x.mn ≤ 0) && g i))) := by
                show _ = _
                unfold advF
                congr 2
                rw [decide_eq_decide]
                omega
              obtain ⟨ni, HNI⟩ : ∃ ni, Hid (ni = nxF x s g i) := ⟨_, rfl⟩
              obtain ⟨fi, HFI⟩ : ∃ fi, Hid (fi = g i) := ⟨_, rfl⟩
              rw [← HNI.out] at qn HV1
              rw [← HFI.out] at qa HV1
              clear HNI HFI
              go_upto_region 14 with fail
              cases ni with
              | true =>
                have HV : Hid (advF x s g i = true) := HV1.out
                have HRE : Hid ((wr.setCell ⟨N, i, none⟩ (.bool true)).rowIs N 4 (s.size + 1) (fun j => .bool (if j < i + 1 then advF x s g j else nxF x s g j))) :=
                  (HR.out.set i (.bool true)).congr fun j hj => by
                    by_cases h1 : j = i
                    · rw [if_pos h1, h1, if_pos (by omega), HV.out]
                    · rw [if_neg h1]
                      by_cases h2 : j < i
                      · rw [if_pos h2, if_pos (by omega)]
                      · rw [if_neg h2, if_neg (by omega)]
                go_wp2_with fail
                go_roundg (s.size + 1 - (i + 1))
                case measure => omega
                case rel => exact ⟨i + 1, by omega, by go_num, HRE.out, HG.out.setOther (by omega) _, HB.out.setCell (p := ⟨N, i, none⟩) hN _, Nat.le_refl _⟩
              | false =>
                by_cases hm : x.mn ≤ 0
                · have HV : Hid (advF x s g i = fi) := by show _ = _; rw [HV1.out, decide_eq_true hm]; rfl
                  have HRE : Hid ((wr.setCell ⟨N, i, none⟩ (.bool fi)).rowIs N 4 (s.size + 1) (fun j => .bool (if j < i + 1 then advF x s g j else nxF x s g j))) :=
                    (HR.out.set i (.bool fi)).congr fun j hj => by
                      by_cases h1 : j = i
                      · rw [if_pos h1, h1, if_pos (by omega), HV.out]
                      · rw [if_neg h1]
                        by_cases h2 : j < i
                        · rw [if_pos h2, if_pos (by omega)]
                        · rw [if_neg h2, if_neg (by omega)]
                  go_wp2_with fail
                  go_roundg (s.size + 1 - (i + 1))
                  case measure => omega
                  case rel => exact ⟨i + 1, by omega, by go_num, HRE.out, HG.out.setOther (by omega) _, HB.out.setCell (p := ⟨N, i, none⟩) hN _, Nat.le_refl _⟩
                · have HV : Hid (advF x s g i = false) := by show _ = _; rw [HV1.out, decide_eq_false hm]; rfl
                  have HRE : Hid ((wr.setCell ⟨N, i, none⟩ (.bool false)).rowIs N 4 (s.size + 1) (fun j => .bool (if j < i + 1 then advF x s g j else nxF x s g j))) :=
                    (HR.out.set i (.bool false)).congr fun j hj => by
                      by_cases h1 : j = i
                      · rw [if_pos h1, h1, if_pos (by omega), HV.out]
                      · rw [if_neg h1]
                        by_cases h2 : j < i
                        · rw [if_pos h2, if_pos (by omega)]
                        · rw [if_neg h2, if_neg (by omega)]
                  go_wp2_with fail
                  go_roundg (s.size + 1 - (i + 1))
                  case measure => omega
                  case rel => exact ⟨i + 1, by omega, by go_num, HRE.out, HG.out.setOther (by omega) _, HB.out.setCell (p := ⟨N, i, none⟩) hN _, Nat.le_refl _⟩
            · obtain rfl : i = s.size + 1 := by omega
              have hi2 : ¬ (((s.size + 1 : Nat)) : Int) < (s.size : Int) + 1 := by omega
              have HRE : Hid (wr.rowIs N 4 (s.size + 1) (fun j => .bool (advF x s g j))) := HR.out.congr fun j hj => by rw [if_pos hj]
              go_wp2_with fail
              go_roundg (l.length - (k + 1))
              case measure => omega
              case rel => exact ⟨k + 1, advF x s g, by go_num, by omega, row_pl HRE.out, HX2.out, HB.out, Nat.le_refl _⟩
    · have hki : ¬ (k : Int) < (l.length : Int) := by omega
      have HE : Hid (g = R) := by
        have h := HX.out
        rw [List.drop_eq_nil_of_le (by omega)] at h
        exact h
      go_wp2_with fail
      go_ret
      rw [HE.out] at HG
      exact ⟨_, rfl, HG.out, HB.out⟩

end Go.Proofs.YtpboaadjbkaidaaDoor

namespace Go.Proofs.YtpboaadjbkaidaaDoor
set_option maxRecDepth 100000
open Go.RowKit

set_option maxRecDepth 100000 in
set_option maxHeartbeats 4000000 in
theorem rstart_any (s : ByteArray) (w : World) (hs : s.size ≤ 2147483648) :
    Calls Tryd.prog 94 #[.string s] w (RetPl w (s.size + 1) startF) := by
  have hmk := fun w => run_make_row' (P := Tryd.prog) 86 4 (.bool false) 1 Tryd.underlying86 bool_info rfl .i64 .i64 (s.size + 1) (by omega) (by omega) w
  rw [show ((s.size + 1 : Nat) : Int) = (s.size : Int) + 1 by omega] at hmk
  go_enter Tryd.func94, Tryd.ntmps94
  have HR0 : Hid ((w.alloc (.cells (madeCells #[.bool false] (s.size + 1)) 4)).rowIs w.heap.size 4 (s.size + 1) (fun _ => .bool false)) := World.rowIs_made w (.bool false) (s.size + 1) 4
  have HB0 := Lib.hid ((Below.refl w.heap.size w).alloc (Nat.le_refl _) (.cells (madeCells #[.bool false] (s.size + 1)) 4))
  go_upto_region 2 with fail
  generalize w.alloc (.cells (madeCells #[.bool false] (s.size + 1)) 4) = w1 at HR0 HB0 ⊢
  have r0 := HR0.out.cell (i := 0) (by omega)
  have rf := HR0.out.frozen 0
  have HR1 : Hid ((w1.setCell ⟨w.heap.size, 0, none⟩ (.bool true)).rowIs w.heap.size 4 (s.size + 1) (fun j => .bool (startF j))) := (HR0.out.set 0 (.bool true)).congr fun j _ => by
    unfold startF
    by_cases h : j = 0
    · rw [if_pos h, h]; rfl
    · rw [if_neg h, show (j == 0) = false from beq_eq_false_iff_ne.2 h]
  have hse : (0 : Int) < (s.size : Int) + 1 := by omega
  go_wp2_with fail
  go_ret
  exact ⟨w.heap.size, rfl, Nat.le_refl _, HR1.out, HB0.out.setCell (p := ⟨w.heap.size, 0, none⟩) (Nat.le_refl _) _⟩

set_option maxRecDepth 100000 in
set_option maxHeartbeats 4000000 in
theorem rlongest_any (p : List At) (s : ByteArray) (pv : Value) (w : World) (hp : RdE atC 34 w pv p) (hs : s.size ≤ 2147483648) (hl : p.length ≤ 140737488355328) :
    Calls Tryd.prog 68 #[pv, .string s] w fun e w' => e = .returned (.int .i64 (longestF p s)) ∧ Below w.heap.size w w' := by
  obtain ⟨V, HV⟩ : ∃ V, Hid (V = longestF p s) := ⟨_, rfl⟩
  rw [← HV.out]
  go_enter Tryd.func68, Tryd.ntmps68
  go_wp2_with (first
    | (go_at_call 94; refine (rstart_any s _ hs).mono ?_; rintro e w1 ⟨g1, rfl, hg1, hr1, hb1⟩)
    | (go_at_call 67; refine (rreach_any p s pv _ _ _ (by exact hp.below hb1 (Nat.le_refl _)) (by exact row_rd hr1) hs hl).mono ?_; rintro e w2 ⟨v2, rfl, hv2, hb2⟩; obtain ⟨b2, o2, c2, rfl, hbl2, hc2⟩ := hv2))
  obtain ⟨R, HR⟩ : ∃ R, Hid (R = reachF s p startF) := ⟨_, rfl⟩
  rw [← HR.out] at hc2
  have HC := Lib.hid hc2
  have HB2 := Lib.hid (hb1.trans (hb2.mono hb1.size))
  have HV0 : Hid (longF R (s.size + 1) = V) := by show _ = _; rw [HV.out, HR.out]; rfl
  clear hc2 hb1 hb2 hr1 HV HR hp
  go_loopg [5, 14] (s.size + 1) (fun n bv iv wr => ∃ k : Nat, k ≤ s.size + 1 ∧ bv = .int .i64 (longF R k) ∧ iv = .int .i64 (k : Nat) ∧ w2 = wr ∧ s.size + 1 - k ≤ n)
  case atStart => exact ⟨0, by omega, rfl, rfl, rfl, by omega⟩
  case round =>
    obtain ⟨k, hk, rfl, rfl, rfl, hgk⟩ := hrel
    by_cases hkl : k < s.size + 1
    · have hki : (k : Int) < (s.size : Int) + 1 := by omega
      have q := HC.out k hkl
      have HS : Hid (longF R (k + 1) = if R k = true then (k : Int) else longF R k) := rfl
      generalize longF R k = y at HS
      cases hRk : R k with
      | true =>
        rw [hRk] at q HS
        rw [if_pos rfl] at HS
        go_wp2_with fail
        go_roundg (s.size + 1 - (k + 1))
        case measure => omega
        case rel => exact ⟨k + 1, by omega, by rw [HS.out], by go_num, rfl, Nat.le_refl _⟩
      | false =>
        rw [hRk] at q HS
        rw [if_neg Bool.false_ne_true] at HS
        go_wp2_with fail
        go_roundg (s.size + 1 - (k + 1))
        case measure => omega
        case rel => exact ⟨k + 1, by omega, by rw [HS.out], by go_num, rfl, Nat.le_refl _⟩
    · obtain rfl : k = s.size + 1 := by omega
      have hki : ¬ (((s.size + 1 : Nat)) : Int) < (s.size : Int) + 1 := by omega
      rw [HV0.out]
      go_wp2_with fail
      go_ret
      exact ⟨rfl, HB2.out⟩

set_option maxRecDepth 100000 in
set_option maxHeartbeats 4000000 in
theorem rprefix_any (p : List At) (s : ByteArray) (pv : Value) (w : World) (hp : RdE atC 34 w pv p) (hs : s.size ≤ 2147483648) (hl : p.length ≤ 140737488355328) :
    Calls Tryd.prog 33 #[pv, .string s] w fun e w' => e = .returned (.bool (prefixF p s)) ∧ Below w.heap.size w w' := by
  have HL := Lib.hid (rlongest_any p s pv w hp hs hl)
  have HP : Hid (prefixF p s = decide (0 ≤ longestF p s)) := rfl
  go_enter Tryd.func33, Tryd.ntmps33
  generalize longestF p s = z at HL HP
  go_wp2_with (go_at_call 68; refine HL.out.mono ?_; rintro e w1 ⟨rfl, hb1⟩)
  go_ret
  exact ⟨ret_bool (by rw [HP.out]), hb1⟩

set_option maxRecDepth 100000 in
set_option maxHeartbeats 4000000 in
theorem rsuffix_any (p : List At) (s : ByteArray) (pv : Value) (w : World) (hp : RdE atC 34 w pv p) (hs : s.size ≤ 2147483648) (hl : p.length ≤ 140737488355328) :
    Calls Tryd.prog 32 #[pv, .string s] w fun e w' => e = .returned (.bool (suffixF p s)) ∧ Below w.heap.size w w' := by
  have hmk := fun w => run_make_row' (P := Tryd.prog) 86 4 (.bool false) 1 Tryd.underlying86 bool_info rfl .i64 .i64 (s.size + 1) (by omega) (by omega) w
  rw [show ((s.size + 1 : Nat) : Int) = (s.size : Int) + 1 by omega] at hmk
  obtain ⟨V, HV⟩ : ∃ V, Hid (V = suffixF p s) := ⟨_, rfl⟩
  rw [← HV.out]
  go_enter Tryd.func32, Tryd.ntmps32
  have HR0 : Hid ((w.alloc (.cells (madeCells #[.bool false] (s.size + 1)) 4)).rowIs w.heap.size 4 (s.size + 1) (fun j => .bool (decide (j < 0)))) := (World.rowIs_made w (.bool false) (s.size + 1) 4).congr fun j _ => by rw [decide_eq_false (by omega)]
  have HB0 := Lib.hid ((Below.refl w.heap.size w).alloc (Nat.le_refl _) (.cells (madeCells #[.bool false] (s.size + 1)) 4))
  go_wp2_with fail
  generalize w.alloc (.cells (madeCells #[.bool false] (s.size + 1)) 4) = w1 at HR0 HB0
  go_loopg [13] (s.size + 1) (fun n kv wr => ∃ k : Nat, k ≤ s.size + 1 ∧ kv = .int .i64 k ∧ Hid (wr.rowIs w.heap.size 4 (s.size + 1) (fun j => .bool (decide (j < k)))) ∧ Hid (Below w.heap.size w wr) ∧ s.size + 1 - k ≤ n)
  case atStart => exact ⟨0, by omega, rfl, HR0.out, HB0.out, by omega⟩
  case round =>
    clear HR0 HB0
    obtain ⟨k, hk, rfl, HR, HB, hgk⟩ := hrel
    by_cases hkl : k < s.size + 1
    · have hki : (k : Int) < (s.size : Int) + 1 := by omega
      have r0 := HR.out.cell (i := k) hkl
      have rf := HR.out.frozen k
      have HR1 : Hid ((wr.setCell ⟨w.heap.size, k, none⟩ (.bool true)).rowIs w.heap.size 4 (s.size + 1) (fun j => .bool (decide (j < k + 1)))) := (HR.out.set k (.bool true)).congr fun j _ => by
        by_cases h : j = k
        · rw [if_pos h, decide_eq_true (by omega)]
        · rw [if_neg h]
          congr 1
          rw [decide_eq_decide]
          omega
      go_wp2_with fail
      go_roundg (s.size + 1 - (k + 1))
      case measure => omega
      case rel => exact ⟨k + 1, by omega, by go_num, HR1.out, HB.out.setCell (p := ⟨w.heap.size, k, none⟩) (Nat.le_refl _) _, Nat.le_refl _⟩
    · obtain rfl : k = s.size + 1 := by omega
      have hki : ¬ (((s.size + 1 : Nat)) : Int) < (s.size : Int) + 1 := by omega
      have HR1 : Hid (wr.rowIs w.heap.size 4 (s.size + 1) (fun j => .bool (allF j))) := HR.out.congr fun j hj => by rw [decide_eq_true hj]; rfl
      have HP := Lib.hid (hp.below HB.out (Nat.le_refl _))
      have HX := Lib.hid (rreach_any p s pv _ _ _ HP.out (row_rd HR1.out) hs hl)
      have hse : (s.size : Int) < (s.size : Int) + 1 := by omega
      go_wp2_with (go_at_call 67; refine HX.out.mono ?_; rintro e w2 ⟨v2, rfl, hv2, hb2⟩; obtain ⟨b2, o2, c2, rfl, hbl2, hc2⟩ := hv2; have qe := hc2 s.size (by omega))
      go_ret
      exact ⟨ret_bool (by rw [HV.out]; rfl), HB.out.trans (hb2.mono HB.out.size)⟩

end Go.Proofs.YtpboaadjbkaidaaDoor

namespace Go.Proofs.YtpboaadjbkaidaaDoor
set_option maxRecDepth 100000

/-- Whether there is a break at a place that may lie outside. -/
def decB (rs : List Ru) (s : ByteArray) (k : Int) : Bool := decide (0 < k) && (decide (k < s.size) && decideF rs s k.toNat)
end Go.Proofs.YtpboaadjbkaidaaDoor

namespace Go.Proofs.YtpboaadjbkaidaaDoor
set_option maxRecDepth 100000
open Go.RowKit

theorem decide_from (rs : List Ru) (s : ByteArray) (k : Nat) (n : Nat) (h : n < rs.length) : decideF (rs.drop n) s k = if (suffixF rs[n].bf (s.extract 0 k) && prefixF rs[n].af (s.extract k s.size)) = true then rs[n].br else decideF (rs.drop (n + 1)) s k := by
  rw [List.drop_eq_getElem_cons h]
  rfl
def DecRet (w : World) (b : Bool) (e : Ending) (w' : World) : Prop := e = .returned (.bool b) ∧ Below w.heap.size w w'
/-- The bounds under which a list of rules is asked. -/
def RuSmall (rs : List Ru) : Prop := rs.length ≤ 1000000 ∧ ∀ r ∈ rs, r.bf.length ≤ 1000000 ∧ r.af.length ≤ 1000000


set_option maxRecDepth 100000 in
set_option maxHeartbeats 8000000 in
theorem rDecide_any (rs : List Ru) (v : Value) (s : ByteArray) (at0 : Int) (w : World) (ht : RdRu w v rs) (hsm : RuSmall rs) (hs : s.size ≤ 1000000) (hin : IntIn at0) :
    Calls Tryd.prog 30 #[v, .string s, .int .i64 at0] w fun e w' => e = .returned (.bool (decB rs s at0)) ∧ Below w.heap.size w w' := by
  show Calls _ _ _ _ (DecRet w (decB rs s at0))
  obtain ⟨R, HRR⟩ : ∃ R, Hid (R = DecRet w (decB rs s at0)) := ⟨_, rfl⟩
  rw [← HRR.out]
  obtain ⟨hl, hal⟩ := hsm
  obtain ⟨xs, hx0, hxl, hx⟩ := ht
  have hxa : xs.length ≤ rs.length := Nat.le_of_eq hxl
  have hxb : rs.length ≤ xs.length := Nat.le_of_eq hxl.symm
  clear hxl
  obtain ⟨Av, cv, rfl, hlc, _⟩ := hx0.shape
  by_cases h1 : at0 ≤ 0
  · have e0 : decB rs s at0 = false := by unfold decB; rw [decide_eq_false (by omega)]; rfl
    go_enter Tryd.func30, Tryd.ntmps30
    go_wp2_with fail
    rw [HRR.out, e0]
    exact ⟨rfl, Below.refl _ _⟩
  by_cases h2 : (s.size : Int) ≤ at0
  · have e0 : decB rs s at0 = false := by unfold decB; rw [decide_eq_false (show ¬ at0 < s.size by omega), Bool.false_and, Bool.and_false]
    go_enter Tryd.func30, Tryd.ntmps30
    go_wp2_with fail
    rw [HRR.out, e0]
    exact ⟨rfl, Below.refl _ _⟩
  obtain ⟨a, rfl⟩ : ∃ a : Nat, at0 = (a : Int) := ⟨at0.toNat, by omega⟩
  have has : a ≤ s.size := by omega
  have hai : (a : Int) ≤ (s.size : Int) := by omega
  have ha0 : (0 : Int) ≤ (a : Int) := by omega
  obtain ⟨V, HV⟩ : ∃ V, Hid (V = decideF rs s a) := ⟨_, rfl⟩
  have HRV : Hid (R = DecRet w V) := by
    show _ = _
    rw [HRR.out, HV.out]
    unfold decB
    rw [decide_eq_true (show (0 : Int) < (a : Int) by omega), decide_eq_true (show (a : Int) < (s.size : Int) by omega), Int.toNat_natCast, Bool.true_and, Bool.true_and]
  clear HRR hin
  have HX := Lib.hid hx0
  have HXR := Lib.hid hx
  clear hx0 hx
  have hu := Tryd.underlying30
  have hi : (Tryd.prog.info? 30).map (·.size) = some 3 := by kernel_rfl
  go_enter Tryd.func30, Tryd.ntmps30
  go_wp2_with fail
  obtain ⟨wo, HWO⟩ : ∃ wo, Hid (wo = w) := ⟨w, rfl⟩
  go_loopg [18] xs.length (fun gk kv wr => ∃ k : Nat, kv = .int .i64 k ∧ k ≤ xs.length ∧ Hid (decideF (rs.drop k) s a = V) ∧ Hid (Below w.heap.size w wr) ∧ xs.length - k ≤ gk)
  case atStart => exact ⟨0, rfl, by omega, HV.out.symm, Below.refl _ _, by omega⟩
  case round =>
    clear HWO HV
    obtain ⟨k, rfl, hk, HV, HB, hgk⟩ := hrel
    by_cases hkl : k < xs.length
    · have hki : (k : Int) < (xs.length : Int) := by omega
      have hk0 : (0 : Int) ≤ (k : Int) := by omega
      obtain ⟨bp, o, rfl, hbl, hcell⟩ := HX.out.cells (by omega)
      have hxk : xs[k]? = some xs[k] := List.getElem?_eq_getElem hkl
      have hrk : rs[k]? = some (rs[k]'(by omega)) := List.getElem?_eq_getElem (by omega)
      have hrg : wr.rangeAt bp (o + k * 3) (ruC xs[k]) := fun j v hj => by
        rw [Nat.add_assoc]
        exact (HB.out.cell (p := ⟨bp, o + (k * 3 + j), none⟩) hbl).trans (hcell k _ j v hxk hj)
      obtain ⟨hbr, hbf, haf⟩ := HXR.out k _ _ hxk hrk
      have hrl := hal _ (List.getElem_mem (show k < rs.length by omega))
      have HV2 := Lib.hid ((decide_from rs s a k (by omega)).symm.trans HV.out)
      clear HV
      have HU1 := Lib.hid (hbf.below HB.out (Nat.le_refl _))
      have HT1 := Lib.hid (haf.below HB.out (Nat.le_refl _))
      clear hcell hxk hrk hbf haf
      generalize xs[k] = y at hrg hbr HU1 HT1
      generalize rs[k]'(by omega) = r at hbr HU1 HT1 hrl HV2
      obtain ⟨yb, ⟨uA, un, uc⟩, ⟨tA, tn, tc⟩⟩ := y
      obtain rfl : yb = r.br := hbr
      change Hid (RdE atC 34 wr (.slice uA un uc) r.bf) at HU1
      change Hid (RdE atC 34 wr (.slice tA tn tc) r.af) at HT1
      have hz := HB.out.size
      have hq1 : bp < wr.heap.size := Nat.lt_of_lt_of_le hbl hz

      have z0 : wr.cell? ⟨bp, o + k * 3, none⟩ = some (.bool r.br) := hrg 0 _ rfl
      have z1 : wr.cell? ⟨bp, o + k * 3 + 1, none⟩ = some (.slice uA un uc) := hrg 1 _ rfl
      have z2 : wr.cell? ⟨bp, o + k * 3 + 2, none⟩ = some (.slice tA tn tc) := hrg 2 _ rfl
      have HB4 := HB
      have HU4 := HU1
      have HT4 := HT1
      clear HB HU1 HT1 hrg
      obtain ⟨w4, rfl⟩ : ∃ w4 : World, w4 = wr := ⟨_, rfl⟩
      have hq4 := hq1
      have HS1 := Lib.hid (fun (w' : World) (h : Below w4.heap.size w4 w') => rsuffix_any r.bf (s.extract 0 a) (.slice uA un uc) w' (HU4.out.below h (Nat.le_refl _)) (by rw [ByteArray.size_extract]; omega) (by omega))
      have HP1 := Lib.hid (fun (w' : World) (h : Below w4.heap.size w4 w') => rprefix_any r.af (s.extract a s.size) (.slice tA tn tc) w' (HT4.out.below h (Nat.le_refl _)) (by rw [ByteArray.size_extract]; omega) (by omega))
      obtain ⟨m1, HM1⟩ : ∃ m1, Hid (m1 = suffixF r.bf (s.extract 0 a)) := ⟨_, rfl⟩
      obtain ⟨m2, HM2⟩ : ∃ m2, Hid (m2 = prefixF r.af (s.extract a s.size)) := ⟨_, rfl⟩
      rw [← HM1.out] at HS1 HV2
      rw [← HM2.out] at HP1 HV2
      clear HM1 HM2 HU4 HT4
      have HSL1 : Hid (∀ w', (Instr.sliceAt 9 (.string s) none (some (.int .i64 (a : Int))) none).run Tryd.prog w' = .ok (.string (s.extract 0 a)) w') := fun w' => by go_simp
      have HSL2 : Hid (∀ w', (Instr.sliceAt 9 (.string s) (some (.int .i64 (a : Int))) none none).run Tryd.prog w' = .ok (.string (s.extract a s.size)) w') := fun w' => by go_simp
      have hz4 := HB4.out.size
      cases m1 with
      | false =>
        have HV3 : Hid (decideF (rs.drop (k + 1)) s a = V) := HV2.out
        clear HV2
        go_wp2_with fail
        refine wp_region_at 20 #[false, false, false, false, false, false, false, false, false, false, false, false, false, false, false, false, false, false, false, false] rfl rfl (by kernel_rfl) ?_
        refine wpAny_at (i := 0) (v := .slice (some ⟨bp, o, none⟩) xs.length cv) (some 21) rfl rfl (by kernel_rfl) (by kernel_rfl) (by kernel_rfl) (fun _ _ _ h => h) (by kernel_rfl) (fun _ => ex_move _ _ rfl (by kernel_rfl)) ?_
        simp only [Act.put, List.setIfInBounds_toArray, List.set_cons_zero, List.set_cons_succ]
        refine wpAny_at (i := 1) (v := .int .i64 (k : Int)) (some 22) rfl rfl (by kernel_rfl) (by kernel_rfl) (by kernel_rfl) (fun _ _ _ h => h) (by kernel_rfl) (fun _ => ex_move _ _ rfl (by kernel_rfl)) ?_
        simp only [Act.put, List.setIfInBounds_toArray, List.set_cons_zero, List.set_cons_succ]
        refine wpAny_at (i := 2) (v := .pointer (some ⟨bp, o + k * 3, none⟩)) (some 23) rfl rfl (by kernel_rfl) (by kernel_rfl) (by kernel_rfl) (fun _ _ _ h => h) (by kernel_rfl) (fun _ => ex_indexAddr 31 _ _ (.slice (some ⟨bp, o, none⟩) xs.length cv) (.int .i64 (k : Int)) _ rfl (by kernel_rfl) (by kernel_rfl) (by go_simp)) ?_
        simp only [Act.put, List.setIfInBounds_toArray, List.set_cons_zero, List.set_cons_succ]
        refine wpAny_at (i := 3) (v := .pointer (some ⟨bp, o + k * 3 + 1, none⟩)) (some 24) rfl rfl (by kernel_rfl) (by kernel_rfl) (by kernel_rfl) (fun _ _ _ h => h) (by kernel_rfl) (fun _ => ex_fieldAddr 30 _ 1 (.pointer (some ⟨bp, o + k * 3, none⟩)) _ rfl (by kernel_rfl) (by go_simp)) ?_
        simp only [Act.put, List.setIfInBounds_toArray, List.set_cons_zero, List.set_cons_succ]
        refine wpAny_at (i := 5) (v := .string s) (some 26) rfl rfl (by kernel_rfl) (by kernel_rfl) (by kernel_rfl) (fun _ _ _ h => h) (by kernel_rfl) (fun _ => ex_move _ _ rfl (by kernel_rfl)) ?_
        simp only [Act.put, List.setIfInBounds_toArray, List.set_cons_zero, List.set_cons_succ]
        refine wpAny_at (i := 6) (v := .int .i64 (a : Int)) (some 27) rfl rfl (by kernel_rfl) (by kernel_rfl) (by kernel_rfl) (fun _ _ _ h => h) (by kernel_rfl) (fun _ => ex_move _ _ rfl (by kernel_rfl)) ?_
        simp only [Act.put, List.setIfInBounds_toArray, List.set_cons_zero, List.set_cons_succ]
        refine wpAny_at (i := 7) (v := .string (s.extract 0 a)) (some 28) rfl rfl (by kernel_rfl) (by kernel_rfl) (by kernel_rfl) (fun _ _ _ h => h) (by kernel_rfl) (fun _ => ex_slice 9 _ _ _ (.string s) _ none (some (.int .i64 (a : Int))) rfl (by kernel_rfl) (by kernel_rfl) (by kernel_rfl) (HSL1.out _)) ?_
        simp only [Act.put, List.setIfInBounds_toArray, List.set_cons_zero, List.set_cons_succ]
        refine wpAny_val 4 (some 25) (.slice uA un uc) (by kernel_rfl) rfl rfl (by kernel_rfl) (ex_load 28 _ (.pointer (some ⟨bp, o + k * 3 + 1, none⟩)) _ rfl (by kernel_rfl) (ld_slice (w := w4.drew) z1)) ?_
        simp only [Act.put, List.setIfInBounds_toArray, List.set_cons_zero, List.set_cons_succ]
        refine wpAny_call 8 (some 29) (by kernel_rfl) rfl rfl (by kernel_rfl) 32 (#[.slice uA un uc, .string (s.extract 0 a)]) (by go_simp) (HS1.out _ (below_drewN (Below.refl _ w4) 1)) ?_
        rintro e w5 ⟨rfl, hb5⟩
        refine ⟨_, rfl, ?_⟩
        have hx5 := (below_drewN (Below.refl w4.heap.size w4) 1).trans hb5
        simp only [Act.put, List.setIfInBounds_toArray, List.set_cons_zero, List.set_cons_succ]
        refine wpAny_at (i := 9) (v := .bool false) (some 30) rfl rfl (by kernel_rfl) (by kernel_rfl) (by kernel_rfl) (fun _ _ _ h => h) (by kernel_rfl) (fun _ => ex_move _ _ rfl (by kernel_rfl)) ?_
        simp only [Act.put, List.setIfInBounds_toArray, List.set_cons_zero, List.set_cons_succ]
        refine wpAny_skip 10 (some 31) rfl rfl (by kernel_rfl) (by kernel_rfl) (by kernel_rfl) (fun _ _ _ h => h) (by kernel_rfl) ?_
        simp only [Act.put, List.setIfInBounds_toArray, List.set_cons_zero, List.set_cons_succ]
        refine wpAny_skip 11 (some 32) rfl rfl (by kernel_rfl) (by kernel_rfl) (by kernel_rfl) (fun _ _ _ h => h) (by kernel_rfl) ?_
        simp only [Act.put, List.setIfInBounds_toArray, List.set_cons_zero, List.set_cons_succ]
        refine wpAny_skip 12 (some 33) rfl rfl (by kernel_rfl) (by kernel_rfl) (by kernel_rfl) (fun _ _ _ h => h) (by kernel_rfl) ?_
        simp only [Act.put, List.setIfInBounds_toArray, List.set_cons_zero, List.set_cons_succ]
        refine wpAny_skip 13 (some 34) rfl rfl (by kernel_rfl) (by kernel_rfl) (by kernel_rfl) (fun _ _ _ h => h) (by kernel_rfl) ?_
        simp only [Act.put, List.setIfInBounds_toArray, List.set_cons_zero, List.set_cons_succ]
        refine wpAny_skip 14 (some 35) rfl rfl (by kernel_rfl) (by kernel_rfl) (by kernel_rfl) (fun _ _ _ h => h) (by kernel_rfl) ?_
        simp only [Act.put, List.setIfInBounds_toArray, List.set_cons_zero, List.set_cons_succ]
        refine wpAny_skip 15 (some 36) rfl rfl (by kernel_rfl) (by kernel_rfl) (by kernel_rfl) (fun _ _ _ h => h) (by kernel_rfl) ?_
        simp only [Act.put, List.setIfInBounds_toArray, List.set_cons_zero, List.set_cons_succ]
        refine wpAny_skip 16 (some 37) rfl rfl (by kernel_rfl) (by kernel_rfl) (by kernel_rfl) (fun _ _ _ h => h) (by kernel_rfl) ?_
        simp only [Act.put, List.setIfInBounds_toArray, List.set_cons_zero, List.set_cons_succ]
        refine wpAny_skip 17 (some 38) rfl rfl (by kernel_rfl) (by kernel_rfl) (by kernel_rfl) (fun _ _ _ h => h) (by kernel_rfl) ?_
        simp only [Act.put, List.setIfInBounds_toArray, List.set_cons_zero, List.set_cons_succ]
        refine wpAny_skip 18 (some 39) rfl rfl (by kernel_rfl) (by kernel_rfl) (by kernel_rfl) (fun _ _ _ h => h) (by kernel_rfl) ?_
        simp only [Act.put, List.setIfInBounds_toArray, List.set_cons_zero, List.set_cons_succ]
        refine wpAny_at (i := 19) (v := .bool false) (some 40) rfl rfl (by kernel_rfl) (by kernel_rfl) (by kernel_rfl) (fun _ _ _ h => h) (by kernel_rfl) (fun _ => ex_pick _ _ _ false (undef) (.bool false) rfl (by kernel_rfl) (by kernel_rfl) (by kernel_rfl)) ?_
        simp only [Act.put, List.setIfInBounds_toArray, List.set_cons_zero, List.set_cons_succ]
        refine wpAny_done (by kernel_rfl) ?_ _
        have HB5 := Lib.hid (HB4.out.trans (hx5.mono hz4))
        clear HB4 HS1 HP1 hb5 hx5 HSL1 HSL2
        go_wp2_with fail
        go_roundg (xs.length - (k + 1))
        case measure => omega
        case rel => exact ⟨k + 1, by go_num, by omega, HV3.out, HB5.out, Nat.le_refl _⟩
      | true =>
        cases m2 with
        | false =>
          have HV3 : Hid (decideF (rs.drop (k + 1)) s a = V) := HV2.out
          clear HV2
          go_wp2_with fail
          refine wp_region_at 20 #[false, false, false, false, false, false, false, false, false, false, false, false, false, false, false, false, false, false, false, false] rfl rfl (by kernel_rfl) ?_
          refine wpAny_at (i := 0) (v := .slice (some ⟨bp, o, none⟩) xs.length cv) (some 21) rfl rfl (by kernel_rfl) (by kernel_rfl) (by kernel_rfl) (fun _ _ _ h => h) (by kernel_rfl) (fun _ => ex_move _ _ rfl (by kernel_rfl)) ?_
          simp only [Act.put, List.setIfInBounds_toArray, List.set_cons_zero, List.set_cons_succ]
          refine wpAny_at (i := 1) (v := .int .i64 (k : Int)) (some 22) rfl rfl (by kernel_rfl) (by kernel_rfl) (by kernel_rfl) (fun _ _ _ h => h) (by kernel_rfl) (fun _ => ex_move _ _ rfl (by kernel_rfl)) ?_
          simp only [Act.put, List.setIfInBounds_toArray, List.set_cons_zero, List.set_cons_succ]
          refine wpAny_at (i := 2) (v := .pointer (some ⟨bp, o + k * 3, none⟩)) (some 23) rfl rfl (by kernel_rfl) (by kernel_rfl) (by kernel_rfl) (fun _ _ _ h => h) (by kernel_rfl) (fun _ => ex_indexAddr 31 _ _ (.slice (some ⟨bp, o, none⟩) xs.length cv) (.int .i64 (k : Int)) _ rfl (by kernel_rfl) (by kernel_rfl) (by go_simp)) ?_
          simp only [Act.put, List.setIfInBounds_toArray, List.set_cons_zero, List.set_cons_succ]
          refine wpAny_at (i := 3) (v := .pointer (some ⟨bp, o + k * 3 + 1, none⟩)) (some 24) rfl rfl (by kernel_rfl) (by kernel_rfl) (by kernel_rfl) (fun _ _ _ h => h) (by kernel_rfl) (fun _ => ex_fieldAddr 30 _ 1 (.pointer (some ⟨bp, o + k * 3, none⟩)) _ rfl (by kernel_rfl) (by go_simp)) ?_
          simp only [Act.put, List.setIfInBounds_toArray, List.set_cons_zero, List.set_cons_succ]
          refine wpAny_at (i := 5) (v := .string s) (some 26) rfl rfl (by kernel_rfl) (by kernel_rfl) (by kernel_rfl) (fun _ _ _ h => h) (by kernel_rfl) (fun _ => ex_move _ _ rfl (by kernel_rfl)) ?_
          simp only [Act.put, List.setIfInBounds_toArray, List.set_cons_zero, List.set_cons_succ]
          refine wpAny_at (i := 6) (v := .int .i64 (a : Int)) (some 27) rfl rfl (by kernel_rfl) (by kernel_rfl) (by kernel_rfl) (fun _ _ _ h => h) (by kernel_rfl) (fun _ => ex_move _ _ rfl (by kernel_rfl)) ?_
          simp only [Act.put, List.setIfInBounds_toArray, List.set_cons_zero, List.set_cons_succ]
          refine wpAny_at (i := 7) (v := .string (s.extract 0 a)) (some 28) rfl rfl (by kernel_rfl) (by kernel_rfl) (by kernel_rfl) (fun _ _ _ h => h) (by kernel_rfl) (fun _ => ex_slice 9 _ _ _ (.string s) _ none (some (.int .i64 (a : Int))) rfl (by kernel_rfl) (by kernel_rfl) (by kernel_rfl) (HSL1.out _)) ?_
          simp only [Act.put, List.setIfInBounds_toArray, List.set_cons_zero, List.set_cons_succ]
          refine wpAny_val 4 (some 25) (.slice uA un uc) (by kernel_rfl) rfl rfl (by kernel_rfl) (ex_load 28 _ (.pointer (some ⟨bp, o + k * 3 + 1, none⟩)) _ rfl (by kernel_rfl) (ld_slice (w := w4.drew) z1)) ?_
          simp only [Act.put, List.setIfInBounds_toArray, List.set_cons_zero, List.set_cons_succ]
          refine wpAny_call 8 (some 29) (by kernel_rfl) rfl rfl (by kernel_rfl) 32 (#[.slice uA un uc, .string (s.extract 0 a)]) (by go_simp) (HS1.out _ (below_drewN (Below.refl _ w4) 1)) ?_
          rintro e w5 ⟨rfl, hb5⟩
          refine ⟨_, rfl, ?_⟩
          have hx5 := (below_drewN (Below.refl w4.heap.size w4) 1).trans hb5
          simp only [Act.put, List.setIfInBounds_toArray, List.set_cons_zero, List.set_cons_succ]
          refine wpAny_at (i := 9) (v := .bool true) (some 30) rfl rfl (by kernel_rfl) (by kernel_rfl) (by kernel_rfl) (fun _ _ _ h => h) (by kernel_rfl) (fun _ => ex_move _ _ rfl (by kernel_rfl)) ?_
          simp only [Act.put, List.setIfInBounds_toArray, List.set_cons_zero, List.set_cons_succ]
          refine wpAny_at (i := 10) (v := .slice (some ⟨bp, o, none⟩) xs.length cv) (some 31) rfl rfl (by kernel_rfl) (by kernel_rfl) (by kernel_rfl) (fun _ _ _ h => h) (by kernel_rfl) (fun _ => ex_move _ _ rfl (by kernel_rfl)) ?_
          simp only [Act.put, List.setIfInBounds_toArray, List.set_cons_zero, List.set_cons_succ]
          refine wpAny_at (i := 11) (v := .int .i64 (k : Int)) (some 32) rfl rfl (by kernel_rfl) (by kernel_rfl) (by kernel_rfl) (fun _ _ _ h => h) (by kernel_rfl) (fun _ => ex_move _ _ rfl (by kernel_rfl)) ?_
          simp only [Act.put, List.setIfInBounds_toArray, List.set_cons_zero, List.set_cons_succ]
          refine wpAny_at (i := 12) (v := .pointer (some ⟨bp, o + k * 3, none⟩)) (some 33) rfl rfl (by kernel_rfl) (by kernel_rfl) (by kernel_rfl) (fun _ _ _ h => h) (by kernel_rfl) (fun _ => ex_indexAddr 31 _ _ (.slice (some ⟨bp, o, none⟩) xs.length cv) (.int .i64 (k : Int)) _ rfl (by kernel_rfl) (by kernel_rfl) (by go_simp)) ?_
          simp only [Act.put, List.setIfInBounds_toArray, List.set_cons_zero, List.set_cons_succ]
          refine wpAny_at (i := 13) (v := .pointer (some ⟨bp, o + k * 3 + 2, none⟩)) (some 34) rfl rfl (by kernel_rfl) (by kernel_rfl) (by kernel_rfl) (fun _ _ _ h => h) (by kernel_rfl) (fun _ => ex_fieldAddr 30 _ 2 (.pointer (some ⟨bp, o + k * 3, none⟩)) _ rfl (by kernel_rfl) (by go_simp)) ?_
          simp only [Act.put, List.setIfInBounds_toArray, List.set_cons_zero, List.set_cons_succ]
          refine wpAny_at (i := 15) (v := .string s) (some 36) rfl rfl (by kernel_rfl) (by kernel_rfl) (by kernel_rfl) (fun _ _ _ h => h) (by kernel_rfl) (fun _ => ex_move _ _ rfl (by kernel_rfl)) ?_
          simp only [Act.put, List.setIfInBounds_toArray, List.set_cons_zero, List.set_cons_succ]
          refine wpAny_at (i := 16) (v := .int .i64 (a : Int)) (some 37) rfl rfl (by kernel_rfl) (by kernel_rfl) (by kernel_rfl) (fun _ _ _ h => h) (by kernel_rfl) (fun _ => ex_move _ _ rfl (by kernel_rfl)) ?_
          simp only [Act.put, List.setIfInBounds_toArray, List.set_cons_zero, List.set_cons_succ]
          refine wpAny_at (i := 17) (v := .string (s.extract a s.size)) (some 38) rfl rfl (by kernel_rfl) (by kernel_rfl) (by kernel_rfl) (fun _ _ _ h => h) (by kernel_rfl) (fun _ => ex_slice 9 _ _ _ (.string s) _ (some (.int .i64 (a : Int))) none rfl (by kernel_rfl) (by kernel_rfl) (by kernel_rfl) (HSL2.out _)) ?_
          simp only [Act.put, List.setIfInBounds_toArray, List.set_cons_zero, List.set_cons_succ]
          refine wpAny_val 14 (some 35) (.slice tA tn tc) (by kernel_rfl) rfl rfl (by kernel_rfl) (ex_load 28 _ (.pointer (some ⟨bp, o + k * 3 + 2, none⟩)) _ rfl (by kernel_rfl) (ld_slice ((hx5.cell (p := ⟨bp, o + k * 3 + 2, none⟩) hq4).trans z2))) ?_
          simp only [Act.put, List.setIfInBounds_toArray, List.set_cons_zero, List.set_cons_succ]
          refine wpAny_call 18 (some 39) (by kernel_rfl) rfl rfl (by kernel_rfl) 33 (#[.slice tA tn tc, .string (s.extract a s.size)]) (by go_simp) (HP1.out _ hx5) ?_
          rintro e w6 ⟨rfl, hb6⟩
          refine ⟨_, rfl, ?_⟩
          simp only [Act.put, List.setIfInBounds_toArray, List.set_cons_zero, List.set_cons_succ]
          refine wpAny_at (i := 19) (v := .bool false) (some 40) rfl rfl (by kernel_rfl) (by kernel_rfl) (by kernel_rfl) (fun _ _ _ h => h) (by kernel_rfl) (fun _ => ex_pick _ _ _ true (.bool false) (.bool false) rfl (by kernel_rfl) (by kernel_rfl) (by kernel_rfl)) ?_
          simp only [Act.put, List.setIfInBounds_toArray, List.set_cons_zero, List.set_cons_succ]
          refine wpAny_done (by kernel_rfl) ?_ _
          have HB5 := Lib.hid (HB4.out.trans ((hx5.trans (hb6.mono hx5.size)).mono hz4))
          clear HB4 HS1 HP1 hb5 hb6 hx5 HSL1 HSL2
          go_wp2_with fail
          go_roundg (xs.length - (k + 1))
          case measure => omega
          case rel => exact ⟨k + 1, by go_num, by omega, HV3.out, HB5.out, Nat.le_refl _⟩
        | true =>
          have HV3 : Hid (r.br = V) := HV2.out
          clear HV2
          go_wp2_with fail
          refine wp_region_at 20 #[false, false, false, false, false, false, false, false, false, false, false, false, false, false, false, false, false, false, false, false] rfl rfl (by kernel_rfl) ?_
          refine wpAny_at (i := 0) (v := .slice (some ⟨bp, o, none⟩) xs.length cv) (some 21) rfl rfl (by kernel_rfl) (by kernel_rfl) (by kernel_rfl) (fun _ _ _ h => h) (by kernel_rfl) (fun _ => ex_move _ _ rfl (by kernel_rfl)) ?_
          simp only [Act.put, List.setIfInBounds_toArray, List.set_cons_zero, List.set_cons_succ]
          refine wpAny_at (i := 1) (v := .int .i64 (k : Int)) (some 22) rfl rfl (by kernel_rfl) (by kernel_rfl) (by kernel_rfl) (fun _ _ _ h => h) (by kernel_rfl) (fun _ => ex_move _ _ rfl (by kernel_rfl)) ?_
          simp only [Act.put, List.setIfInBounds_toArray, List.set_cons_zero, List.set_cons_succ]
          refine wpAny_at (i := 2) (v := .pointer (some ⟨bp, o + k * 3, none⟩)) (some 23) rfl rfl (by kernel_rfl) (by kernel_rfl) (by kernel_rfl) (fun _ _ _ h => h) (by kernel_rfl) (fun _ => ex_indexAddr 31 _ _ (.slice (some ⟨bp, o, none⟩) xs.length cv) (.int .i64 (k : Int)) _ rfl (by kernel_rfl) (by kernel_rfl) (by go_simp)) ?_
          simp only [Act.put, List.setIfInBounds_toArray, List.set_cons_zero, List.set_cons_succ]
          refine wpAny_at (i := 3) (v := .pointer (some ⟨bp, o + k * 3 + 1, none⟩)) (some 24) rfl rfl (by kernel_rfl) (by kernel_rfl) (by kernel_rfl) (fun _ _ _ h => h) (by kernel_rfl) (fun _ => ex_fieldAddr 30 _ 1 (.pointer (some ⟨bp, o + k * 3, none⟩)) _ rfl (by kernel_rfl) (by go_simp)) ?_
          simp only [Act.put, List.setIfInBounds_toArray, List.set_cons_zero, List.set_cons_succ]
          refine wpAny_at (i := 5) (v := .string s) (some 26) rfl rfl (by kernel_rfl) (by kernel_rfl) (by kernel_rfl) (fun _ _ _ h => h) (by kernel_rfl) (fun _ => ex_move _ _ rfl (by kernel_rfl)) ?_
          simp only [Act.put, List.setIfInBounds_toArray, List.set_cons_zero, List.set_cons_succ]
          refine wpAny_at (i := 6) (v := .int .i64 (a : Int)) (some 27) rfl rfl (by kernel_rfl) (by kernel_rfl) (by kernel_rfl) (fun _ _ _ h => h) (by kernel_rfl) (fun _ => ex_move _ _ rfl (by kernel_rfl)) ?_
          simp only [Act.put, List.setIfInBounds_toArray, List.set_cons_zero, List.set_cons_succ]
          refine wpAny_at (i := 7) (v := .string (s.extract 0 a)) (some 28) rfl rfl (by kernel_rfl) (by kernel_rfl) (by kernel_rfl) (fun _ _ _ h => h) (by kernel_rfl) (fun _ => ex_slice 9 _ _ _ (.string s) _ none (some (.int .i64 (a : Int))) rfl (by kernel_rfl) (by kernel_rfl) (by kernel_rfl) (HSL1.out _)) ?_
          simp only [Act.put, List.setIfInBounds_toArray, List.set_cons_zero, List.set_cons_succ]
          refine wpAny_val 4 (some 25) (.slice uA un uc) (by kernel_rfl) rfl rfl (by kernel_rfl) (ex_load 28 _ (.pointer (some ⟨bp, o + k * 3 + 1, none⟩)) _ rfl (by kernel_rfl) (ld_slice (w := w4.drew) z1)) ?_
          simp only [Act.put, List.setIfInBounds_toArray, List.set_cons_zero, List.set_cons_succ]
          refine wpAny_call 8 (some 29) (by kernel_rfl) rfl rfl (by kernel_rfl) 32 (#[.slice uA un uc, .string (s.extract 0 a)]) (by go_simp) (HS1.out _ (below_drewN (Below.refl _ w4) 1)) ?_
          rintro e w5 ⟨rfl, hb5⟩
          refine ⟨_, rfl, ?_⟩
          have hx5 := (below_drewN (Below.refl w4.heap.size w4) 1).trans hb5
          simp only [Act.put, List.setIfInBounds_toArray, List.set_cons_zero, List.set_cons_succ]
          refine wpAny_at (i := 9) (v := .bool true) (some 30) rfl rfl (by kernel_rfl) (by kernel_rfl) (by kernel_rfl) (fun _ _ _ h => h) (by kernel_rfl) (fun _ => ex_move _ _ rfl (by kernel_rfl)) ?_
          simp only [Act.put, List.setIfInBounds_toArray, List.set_cons_zero, List.set_cons_succ]
          refine wpAny_at (i := 10) (v := .slice (some ⟨bp, o, none⟩) xs.length cv) (some 31) rfl rfl (by kernel_rfl) (by kernel_rfl) (by kernel_rfl) (fun _ _ _ h => h) (by kernel_rfl) (fun _ => ex_move _ _ rfl (by kernel_rfl)) ?_
          simp only [Act.put, List.setIfInBounds_toArray, List.set_cons_zero, List.set_cons_succ]
          refine wpAny_at (i := 11) (v := .int .i64 (k : Int)) (some 32) rfl rfl (by kernel_rfl) (by kernel_rfl) (by kernel_rfl) (fun _ _ _ h => h) (by kernel_rfl) (fun _ => ex_move _ _ rfl (by kernel_rfl)) ?_
          simp only [Act.put, List.setIfInBounds_toArray, List.set_cons_zero, List.set_cons_succ]
          refine wpAny_at (i := 12) (v := .pointer (some ⟨bp, o + k * 3, none⟩)) (some 33) rfl rfl (by kernel_rfl) (by kernel_rfl) (by kernel_rfl) (fun _ _ _ h => h) (by kernel_rfl) (fun _ => ex_indexAddr 31 _ _ (.slice (some ⟨bp, o, none⟩) xs.length cv) (.int .i64 (k : Int)) _ rfl (by kernel_rfl) (by kernel_rfl) (by go_simp)) ?_
          simp only [Act.put, List.setIfInBounds_toArray, List.set_cons_zero, List.set_cons_succ]
          refine wpAny_at (i := 13) (v := .pointer (some ⟨bp, o + k * 3 + 2, none⟩)) (some 34) rfl rfl (by kernel_rfl) (by kernel_rfl) (by kernel_rfl) (fun _ _ _ h => h) (by kernel_rfl) (fun _ => ex_fieldAddr 30 _ 2 (.pointer (some ⟨bp, o + k * 3, none⟩)) _ rfl (by kernel_rfl) (by go_simp)) ?_
          simp only [Act.put, List.setIfInBounds_toArray, List.set_cons_zero, List.set_cons_succ]
          refine wpAny_at (i := 15) (v := .string s) (some 36) rfl rfl (by kernel_rfl) (by kernel_rfl) (by kernel_rfl) (fun _ _ _ h => h) (by kernel_rfl) (fun _ => ex_move _ _ rfl (by kernel_rfl)) ?_
          simp only [Act.put, List.setIfInBounds_toArray, List.set_cons_zero, List.set_cons_succ]
          refine wpAny_at (i := 16) (v := .int .i64 (a : Int)) (some 37) rfl rfl (by kernel_rfl) (by kernel_rfl) (by kernel_rfl) (fun _ _ _ h => h) (by kernel_rfl) (fun _ => ex_move _ _ rfl (by kernel_rfl)) ?_
          simp only [Act.put, List.setIfInBounds_toArray, List.set_cons_zero, List.set_cons_succ]
          refine wpAny_at (i := 17) (v := .string (s.extract a s.size)) (some 38) rfl rfl (by kernel_rfl) (by kernel_rfl) (by kernel_rfl) (fun _ _ _ h => h) (by kernel_rfl) (fun _ => ex_slice 9 _ _ _ (.string s) _ (some (.int .i64 (a : Int))) none rfl (by kernel_rfl) (by kernel_rfl) (by kernel_rfl) (HSL2.out _)) ?_
          simp only [Act.put, List.setIfInBounds_toArray, List.set_cons_zero, List.set_cons_succ]
          refine wpAny_val 14 (some 35) (.slice tA tn tc) (by kernel_rfl) rfl rfl (by kernel_rfl) (ex_load 28 _ (.pointer (some ⟨bp, o + k * 3 + 2, none⟩)) _ rfl (by kernel_rfl) (ld_slice ((hx5.cell (p := ⟨bp, o + k * 3 + 2, none⟩) hq4).trans z2))) ?_
          simp only [Act.put, List.setIfInBounds_toArray, List.set_cons_zero, List.set_cons_succ]
          refine wpAny_call 18 (some 39) (by kernel_rfl) rfl rfl (by kernel_rfl) 33 (#[.slice tA tn tc, .string (s.extract a s.size)]) (by go_simp) (HP1.out _ hx5) ?_
          rintro e w6 ⟨rfl, hb6⟩
          refine ⟨_, rfl, ?_⟩
          simp only [Act.put, List.setIfInBounds_toArray, List.set_cons_zero, List.set_cons_succ]
          refine wpAny_at (i := 19) (v := .bool true) (some 40) rfl rfl (by kernel_rfl) (by kernel_rfl) (by kernel_rfl) (fun _ _ _ h => h) (by kernel_rfl) (fun _ => ex_pick _ _ _ true (.bool true) (.bool false) rfl (by kernel_rfl) (by kernel_rfl) (by kernel_rfl)) ?_
          simp only [Act.put, List.setIfInBounds_toArray, List.set_cons_zero, List.set_cons_succ]
          refine wpAny_done (by kernel_rfl) ?_ _
          have HB5 := Lib.hid (HB4.out.trans ((hx5.trans (hb6.mono hx5.size)).mono hz4))
          have y0 := ((hx5.trans (hb6.mono hx5.size)).cell (p := ⟨bp, o + k * 3, none⟩) hq4).trans z0
          clear HB4 HS1 HP1 hb5 hb6 hx5 HSL1 HSL2
          go_wp2_with fail
          rw [HRV.out, ← HV3.out]
          exact ⟨rfl, HB5.out⟩
    · obtain rfl : k = xs.length := by omega
      have hki : ¬ (xs.length : Int) < (xs.length : Int) := by omega
      have e : V = false := by
        rw [← HV.out, List.drop_eq_nil_of_le (by omega)]
        rfl
      go_wp2_with fail
      rw [HRV.out, e]
      exact ⟨rfl, HB.out⟩

set_option maxRecDepth 100000 in
set_option maxHeartbeats 8000000 in
theorem rBreaks_any (rs : List Ru) (v : Value) (s : ByteArray) (w : World) (ht : RdRu w v rs) (hsm : RuSmall rs) (hs : s.size ≤ 1000000) :
    Calls Tryd.prog 31 #[v, .string s] w (RetOwn 3 intC 1 w (breaksF rs s)) := by
  obtain ⟨R, HRR⟩ : ∃ R, Hid (R = RetOwn 3 intC 1 w (breaksF rs s)) := ⟨_, rfl⟩
  rw [← HRR.out]
  obtain ⟨Av, cv, rfl⟩ := ht.shape
  by_cases h24 : 1024 < s.size
  · have h24i : (1024 : Int) < (s.size : Int) := by omega
    have e0 : breaksF rs s = [] := by unfold breaksF; rw [if_pos h24]
    go_enter Tryd.func31, Tryd.ntmps31
    go_wp2_with fail
    rw [HRR.out, e0]
    exact ⟨_, rfl, OwnE.nil, Below.refl _ _⟩
  have h24i : ¬ (1024 : Int) < (s.size : Int) := by omega
  have HD := Lib.hid (fun (k : Nat) (hk0 : 0 < k) (hk : k < s.size) (w' : World) (h : Below w.heap.size w w') => rDecide_any rs _ s (k : Int) w' (ht.below h (Nat.le_refl _)) hsm hs ⟨by omega, by omega⟩)
  have HE : Hid (∀ k : Nat, 0 < k → k < s.size → decB rs s (k : Int) = inB rs s k) := fun k h1 h2 => by
    unfold decB inB
    rw [decide_eq_true (show (0 : Int) < (k : Int) by omega), decide_eq_true (show (k : Int) < (s.size : Int) by omega), decide_eq_true h1, Int.toNat_natCast, Bool.true_and]
  have HBU : Hid (breaksF rs s = uptoN (inB rs s) s.size) := breaks_upto rs s (by omega)
  have H0 : Hid (uptoN (inB rs s) 1 = []) := by
    show _ = _
    rw [uptoN_succ]
    rfl
  clear ht hsm
  go_enter Tryd.func31, Tryd.ntmps31
  go_wp2_with fail
  obtain ⟨wo, HWO⟩ : ∃ wo, Hid (wo = w) := ⟨w, rfl⟩
  go_loopg [5, 6] s.size (fun gk ov kv wr => ∃ (k : Nat) (q : List Int) (A : Option Addr) (c : Nat), ov = .slice A q.length c ∧ kv = .int .i64 k ∧ 0 < k ∧ (k ≤ s.size ∨ k = 1) ∧ Hid (q = uptoN (inB rs s) k) ∧ q.length ≤ k ∧ Hid (OwnE 3 intC 1 wr w.heap.size (.slice A q.length c) q) ∧ Hid (Below w.heap.size w wr) ∧ s.size - k ≤ gk)
  case atStart => exact ⟨1, [], none, 0, rfl, rfl, by omega, .inr rfl, H0.out.symm, by simp, OwnE.nil, Below.refl _ _, by omega⟩
  case round =>
    clear HWO
    obtain ⟨k, q, A, c, rfl, rfl, hk0, hk, HQ, hqk, HO, HB, hgk⟩ := hrel
    by_cases hkl : k < s.size
    · have hki : (k : Int) < (s.size : Int) := by omega
      have HD2 := Lib.hid (HD.out k hk0 hkl)
      rw [HE.out k hk0 hkl] at HD2
      have HQ2 : Hid (uptoN (inB rs s) (k + 1) = q ++ if inB rs s k = true then [(k : Int)] else []) := by
        show _ = _
        rw [uptoN_succ, ← HQ.out]
      generalize inB rs s k = b at HD2 HQ2
      have hsz := HB.out.size
      cases b with
      | false =>
        rw [if_neg Bool.false_ne_true, List.append_nil] at HQ2
        go_wp2_with (go_at_call 30; refine (HD2.out _ HB.out).mono ?_; rintro e w3 ⟨rfl, hb3⟩; have HB3 := Lib.hid (HB.out.trans (hb3.mono hsz)); have HO3 := Lib.hid (own_below HO.out hb3 (Nat.le_refl _)); have hs3 := HB3.out.size; clear hb3 HB HO)
        go_roundg (s.size - (k + 1))
        case measure => omega
        case rel => exact ⟨k + 1, q, A, c, rfl, by go_num, by omega, .inl (by omega), HQ2.out.symm, by omega, HO3.out, HB3.out, Nat.le_refl _⟩
      | true =>
        rw [if_pos rfl] at HQ2
        go_wp2_with (first
          | (go_at_call 30; refine (HD2.out _ HB.out).mono ?_; rintro e w3 ⟨rfl, hb3⟩; have HB3 := Lib.hid (HB.out.trans (hb3.mono hsz)); have HO3 := Lib.hid (own_below HO.out hb3 (Nat.le_refl _)); have hs3 := HB3.out.size; clear hb3 HB HO)
          | (at_builtin; go_must (refine wpList_app1 rfl (.tmp 20) (.tmp 22) 32 3 rfl Tryd.underlying32 _ 1 8 int_info6 rfl (by decide) w.heap.size (.slice A q.length c) q.length (q.flatMap intC) rfl (own_below HO3.out ((Below.refl _ w3).alloc (Nat.le_refl _) _) (Nat.le_refl _)) ⟨w3.heap.size, 0, none⟩ 1 (intC k) rfl rfl (cells_new w3 (intC k) 3) (intC_oneA k) (by omega) (by decide) (by simp; omega) ?_); intro g9 cap w9 hown9 hbg9 hbel9 hgrow9))
        have hbn := hbel9 w.heap.size w3 (Nat.le_refl _) ((Below.refl w.heap.size w3).alloc hs3 (.cells (intC k).toArray 3))
        have HB9 := Lib.hid (HB3.out.trans hbn)
        have HO9 : Hid (OwnE 3 intC 1 w9 w.heap.size (.slice (some ⟨g9, 0, none⟩) (q.length + 1) cap) (q ++ [(k : Int)])) := OwnE.snoc hown9
        clear hown9 hbel9 hgrow9 hbn
        go_wp2_with fail
        go_roundg (s.size - (k + 1))
        case measure => omega
        case rel => exact ⟨k + 1, q ++ [(k : Int)], some ⟨g9, 0, none⟩, cap, by (show Value.slice _ _ _ = Value.slice _ _ _); rw [List.length_append]; rfl, by go_num, by omega, .inl (by omega), HQ2.out.symm, by rw [List.length_append]; show q.length + 1 ≤ k + 1; omega, by (show OwnE _ _ _ _ _ _ _); rw [List.length_append]; exact HO9.out, HB9.out, Nat.le_refl _⟩
    · have hki : ¬ (k : Int) < (s.size : Int) := by omega
      have e : q = breaksF rs s := by
        rw [HQ.out, HBU.out]
        by_cases h : k = s.size
        · rw [h]
        · have h1 : k = 1 := by omega
          have h2 : s.size = 0 := by omega
          rw [h1, h2, H0.out]
          rfl
      go_wp2_with fail
      rw [HRR.out, ← e]
      exact ⟨_, rfl, HO.out, HB.out⟩

end Go.Proofs.YtpboaadjbkaidaaDoor

namespace Go.Proofs.YtpboaadjbkaidaaDoor
set_option maxRecDepth 100000

/-- The breaks as natural numbers. -/
def bnF (rs : List Ru) (s : ByteArray) : List Nat := if 1024 < s.size then [] else (List.range s.size).filter fun k => decide (0 < k) && decideF rs s k
theorem breaks_nat (rs : List Ru) (s : ByteArray) : breaksF rs s = (bnF rs s).map fun (k : Nat) => (k : Int) := by
  unfold breaksF bnF
  split <;> rfl
theorem bnF_asc (rs : List Ru) (s : ByteArray) : (0 :: bnF rs s).Pairwise (· ≤ ·) := by
  refine List.pairwise_cons.2 ⟨fun _ _ => Nat.zero_le _, ?_⟩
  unfold bnF
  split
  · exact List.Pairwise.nil
  · exact ((List.pairwise_lt_range (n := s.size)).filter _).imp fun h => Nat.le_of_lt h
theorem bnF_le (rs : List Ru) (s : ByteArray) : ∀ b ∈ bnF rs s, b < s.size := by
  unfold bnF
  intro b hb
  split at hb
  · simp at hb
  · exact List.mem_range.1 (List.mem_filter.1 hb).1
theorem bnF_len (rs : List Ru) (s : ByteArray) : (bnF rs s).length ≤ s.size := by
  unfold bnF
  split
  · simp
  · exact Nat.le_trans (List.length_filter_le _ _) (by simp)
def rangesF (rs : List Ru) (f : List Tk) : List (Nat × Nat) := rngF (sqF f) 0 (cutsF f (bnF rs (plS f)))
theorem cuts_ok (rs : List Ru) (f : List Tk) : AscF 0 (cutsF f (bnF rs (plS f))) (lenI f) := by
  have hs := plS_size f
  have h := cuts_asc f (bnF rs (plS f)) 0 (bnF_asc _ _) (fun b hb => by
    rcases List.mem_cons.1 hb with rfl | hb
    · exact Nat.zero_le _
    · have := bnF_le _ _ b hb
      omega)
  exact h.zero (by unfold cutsF; simp)
theorem cuts_len (f : List Tk) (bn : List Nat) : (cutsF f bn).length = bn.length + 1 := by unfold cutsF; simp
theorem cuts_at (f : List Tk) (bn : List Nat) (k : Nat) (h : k < bn.length) : (cutsF f bn)[k]? = some (placeP (posI f) bn[k]) := by
  unfold cutsF
  rw [List.getElem?_append_left (by simpa using h), List.getElem?_map, List.getElem?_eq_getElem h]
  rfl
theorem cuts_end (f : List Tk) (bn : List Nat) : (cutsF f bn)[bn.length]? = some (lenI f) := by
  unfold cutsF
  rw [List.getElem?_append_right (by simp)]
  simp
theorem ranges_len (rs : List Ru) (f : List Tk) (h : lenI f ≤ 100000) : (rangesF rs f).length ≤ 1000000 := by
  have h1 := rngF_len (sqF f) (cutsF f (bnF rs (plS f))) 0
  have h2 := cuts_len f (bnF rs (plS f))
  have h3 := bnF_len rs (plS f)
  have h4 := plS_size f
  have h5 := plI_len f
  unfold rangesF
  omega
theorem placeF_nat (f : List Tk) (b : Nat) (h : b ≤ (plI f).length) : placeF f (b : Int) = (placeP (posI f) b : Nat) := by
  unfold placeF
  rw [if_neg (by omega), Int.toNat_natCast]
/-- What a segment of a cut says of the two loops. -/
theorem sgF_yes (R : List (Bool × Bool)) (p q : Nat) (hR : ∀ c ∈ R, c.1 = true → c.2 = false) (hq : q ≤ R.length) (ha : ((R.take q).drop p).any (·.1) = true) : sgF R p q = [(frI R p, bkI R q)] ∧ p ≤ frI R p ∧ frI R p < bkI R q ∧ bkI R q ≤ q ∧ (∃ h : frI R p < R.length, R[frI R p].2 = false) ∧ (∃ h : bkI R q - 1 < R.length, R[bkI R q - 1].2 = false) := by
  obtain ⟨j, hj, h1, h2, h3, h4⟩ := any_pos R p q hR ha
  have e1 := frI_ge R p
  have e2 := frI_le R p j h1 hj h4
  have e3 := bkI_gt R q j h2 hq h4
  have e4 := bkI_le R q
  refine ⟨by unfold sgF; rw [if_pos ha], e1, by omega, e4, ?_, ?_⟩
  · obtain ⟨k, hk, hkl, hks⟩ := frI_at R p j h1 hj h4
    rw [hk]
    exact ⟨hkl, hks⟩
  · obtain ⟨k, hk, hkl, hks⟩ := bkI_at R q j h2 hq h4
    rw [hk]
    exact ⟨hkl, hks⟩
theorem sgF_no (R : List (Bool × Bool)) (p q : Nat) (ha : ((R.take q).drop p).any (·.1) ≠ true) : sgF R p q = [] := by unfold sgF; rw [if_neg ha]
theorem fr_space (R : List (Bool × Bool)) (x j : Nat) (h1 : x ≤ j) (h2 : j < frI R x) : (R.map (·.2))[j]? = some true := by
  obtain ⟨h, hs⟩ := frI_none R x j h1 h2
  rw [List.getElem?_map, List.getElem?_eq_getElem h]
  simp [hs]
theorem bk_space (R : List (Bool × Bool)) (y j : Nat) (hyl : y ≤ R.length) (h1 : bkI R y ≤ j) (h2 : j < y) : (R.map (·.2))[j]? = some true := by
  have hs := bkI_none R y j hyl h1 h2
  rw [List.getElem?_map, List.getElem?_eq_getElem (by omega)]
  simp [hs]
/-- All that the walks want of a cut. -/
structure SegAt (S : List Bool) (p q x y : Nat) : Prop where
  px : p ≤ x
  xy : x < y
  yq : y ≤ q
  lead : ∀ j, p ≤ j → j < x → S[j]? = some true
  atx : S[x]? = some false
  tail : ∀ j, y ≤ j → j < q → S[j]? = some true
  aty : S[y - 1]? = some false
theorem segAt (f : List Tk) (p q : Nat) (hq : q ≤ lenI f) (ha : (plI (slI f 0 p q)).any (fun c => !spcB c) = true) : ∃ x y, sgF (sqF f) p q = [(x, y)] ∧ SegAt ((sqF f).map (·.2)) p q x y := by
  rw [plI_any, sqF_sl, Nat.sub_zero, Nat.sub_zero] at ha
  have hql : q ≤ (sqF f).length := by rw [sqF_len]; exact hq
  obtain ⟨h0, h1, h2, h3, ⟨h4, h5⟩, ⟨h6, h7⟩⟩ := sgF_yes (sqF f) p q (sqF_ex f) hql ha
  refine ⟨_, _, h0, h1, h2, h3, fun j a b => fr_space _ p j a b, ?_, fun j a b => bk_space _ q j hql a b, ?_⟩
  · rw [List.getElem?_map, List.getElem?_eq_getElem h4, Option.map_some, h5]
  · rw [List.getElem?_map, List.getElem?_eq_getElem h6, Option.map_some, h7]
theorem segNo (f : List Tk) (p q : Nat) (ha : (plI (slI f 0 p q)).any (fun c => !spcB c) ≠ true) : sgF (sqF f) p q = [] := by
  rw [plI_any, sqF_sl, Nat.sub_zero, Nat.sub_zero] at ha
  exact sgF_no _ _ _ ha
theorem one_rs (f : List Tk) (p : Nat) (h : p < lenI f) : ∃ y b, slI f 0 p (p + 1) = [y] ∧ ((sqF f).map (·.2))[p]? = some b ∧ ((y.k = 1 ∧ ∃ h : 0 < y.t.size, spcB y.t[0] = b) ∨ (y.k ≠ 1 ∧ b = false)) := by
  have hp : p < (sqF f).length := by rw [sqF_len]; exact h
  obtain ⟨y, hy, _⟩ := one_item f p (by rw [posI_len]; exact h)
  have hw := slI_wd p (p + 1) f 0 y (by rw [hy]; simp)
  have e := sqF_sl p (p + 1) f 0
  rw [Nat.sub_zero, Nat.sub_zero, List.take_succ_eq_append_getElem hp, List.drop_append, List.length_take, show p - min p (sqF f).length = 0 by omega, List.drop_zero, List.drop_eq_nil_of_le (by rw [List.length_take]; omega), List.nil_append, hy, sqF_one] at e
  refine ⟨y, (sqF f)[p].2, hy, by rw [List.getElem?_map, List.getElem?_eq_getElem hp, Option.map_some], ?_⟩
  generalize (sqF f)[p] = c at e
  unfold wdI at hw
  unfold sqI at e
  by_cases hk : y.k = 1
  · rw [if_pos hk] at hw e
    refine Or.inl ⟨hk, by omega, ?_⟩
    have h0 : y.t.data.toList[0]? = some y.t[0] := List.getElem?_eq_getElem (by rw [← Lib.size_eq]; exact hw)
    have h1 := congrArg (fun l : List (Bool × Bool) => l[0]?) e
    simp only [List.getElem?_map, h0, List.getElem?_cons_zero, Option.map_some] at h1
    injection h1 with h1
    rw [← h1]
  · rw [if_neg hk] at e
    refine Or.inr ⟨hk, ?_⟩
    split at e
    · injection e with e _
      rw [← e]
    · injection e with e _
      rw [← e]

end Go.Proofs.YtpboaadjbkaidaaDoor

namespace Go.Proofs.YtpboaadjbkaidaaDoor
set_option maxRecDepth 100000
open Go.RowKit

theorem trim_any (s : ByteArray) (w : World) (hs : s.size ≤ maxLen) :
    Calls Tryd.prog 79 #[.string s] w fun e w' => ∃ x y : Nat, IsTrim s.data.toList x y ∧ e = .returned (.tuple #[.int .i64 x, .int .i64 y]) ∧ w = w' := by
  unfold maxLen at hs
  have hsz := Lib.size_eq s
  have HZ := Lib.hid hsz
  clear hsz
  go_enter Tryd.func79, Tryd.ntmps79
  go_wp2
  go_loop [2] (fun i => ∃ k : Nat, k ≤ s.size ∧ i = .int .i64 k ∧ Hid (∀ (j : Nat) (c : UInt8), j < k → s.data.toList[j]? = some c → clsN c.toNat = 2)) (fun i => s.size - (intOf i).toNat)
  case atStart => exact ⟨0, by omega, rfl, fun j c h => by omega⟩
  case round =>
    obtain ⟨k, hk, rfl, HR⟩ := hrel
    by_cases hlt : k < s.size
    · have h255 : s[k].toNat < 256 := s[k].toNat_lt
      have hgk := Lib.hid (show s.data.toList[k]? = some s[k] from List.getElem?_eq_getElem (by rw [← Lib.size_eq]; exact hlt))
      by_cases hsp : clsN (s[k].toNat : Int) = 2
      · have ht : (clsN (s[k].toNat : Int) == 2) = true := by rw [hsp]; rfl
        have HP := Lib.hid hsp
        clear hsp
        go_wp2_with (go_at_call 98; refine (of_any _ _ (by omega) (by omega)).mono ?_; rintro e w' ⟨rfl, rfl⟩)
        refine ⟨⟨k + 1, by omega, by go_num, fun j c hj hc => ?_⟩, by simp [intOf]; try omega⟩
        by_cases hjk : j = k
        · subst hjk
          rw [hgk.out] at hc
          injection hc with hc
          subst hc
          exact HP.out
        · exact HR.out j c (by omega) hc
      · have ht : (clsN (s[k].toNat : Int) == 2) = false := by simpa using hsp
        have HP := Lib.hid hsp
        clear hsp
        go_wp2_with (go_at_call 98; refine (of_any _ _ (by omega) (by omega)).mono ?_; rintro e w' ⟨rfl, rfl⟩)
        go_loop [3] (fun i => ∃ u : Nat, k ≤ u ∧ u < s.size ∧ i = .int .i64 ((u : Int) + 1) ∧ Hid (∀ (j : Nat) (c : UInt8), u + 1 ≤ j → s.data.toList[j]? = some c → clsN c.toNat = 2)) (fun i => (intOf i).toNat)
        case atStart =>
          refine ⟨s.size - 1, by omega, by omega, by go_num, fun j c hj hc => ?_⟩
          have := (List.getElem?_eq_some_iff.1 hc).1
          rw [← HZ.out] at this
          omega
        case round =>
          obtain ⟨u, hu1, hu2, rfl, HU⟩ := hrel
          have h255' : s[u].toNat < 256 := s[u].toNat_lt
          have hgu := Lib.hid (show s.data.toList[u]? = some s[u] from List.getElem?_eq_getElem (by rw [← Lib.size_eq]; exact hu2))
          by_cases hsp2 : clsN (s[u].toNat : Int) = 2
          · have hne : k ≠ u := by
              rintro rfl
              exact HP.out hsp2
            have ht2 : (clsN (s[u].toNat : Int) == 2) = true := by rw [hsp2]; rfl
            have HP2 := Lib.hid hsp2
            clear hsp2
            go_wp2_with (go_at_call 98; refine (of_any _ _ (by omega) (by omega)).mono ?_; rintro e w' ⟨rfl, rfl⟩)
            refine ⟨⟨u - 1, by omega, by omega, by go_num, fun j c hj hc => ?_⟩, by simp [intOf]; try omega⟩
            by_cases hju : j = u
            · subst hju
              rw [hgu.out] at hc
              injection hc with hc
              subst hc
              exact HP2.out
            · exact HU.out j c (by omega) hc
          · have ht2 : (clsN (s[u].toNat : Int) == 2) = false := by simpa using hsp2
            have HP2 := Lib.hid hsp2
            clear hsp2
            have hne : ((k : Int) == (u : Int) + 1) = false := by simp; omega
            go_wp2_with (go_at_call 98; refine (of_any _ _ (by omega) (by omega)).mono ?_; rintro e w' ⟨rfl, rfl⟩)
            go_ret2
            refine ⟨k, u + 1, .inr ⟨by omega, by rw [← HZ.out]; omega, fun c hc => ?_, fun c hc => ?_, fun j c hj hc => HR.out j c hj hc, fun j c hj hc => HU.out j c hj hc⟩, by go_num, rfl⟩
            · rw [hgk.out] at hc
              injection hc with hc
              subst hc
              exact HP.out
            · rw [Nat.add_sub_cancel, hgu.out] at hc
              injection hc with hc
              subst hc
              exact HP2.out
    · obtain rfl : k = s.size := by omega
      go_wp2
      go_loop [3] (fun i => i = .int .i64 (s.size : Nat)) (fun i => (intOf i).toNat)
      case atStart => rfl
      case round =>
        subst hrel
        go_wp2
        go_ret2
        refine ⟨0, 0, .inl ⟨rfl, rfl, fun j c hc => HR.out j c ?_ hc⟩, rfl, rfl⟩
        have := (List.getElem?_eq_some_iff.1 hc).1
        rw [← HZ.out] at this
        exact this

theorem rtrim_any (s : ByteArray) (w : World) (hs : s.size ≤ maxLen) :
    Calls Tryd.prog 80 #[.string s] w fun e w' => ∃ x y : Nat, IsTrim s.data.toList x y ∧ e = .returned (.tuple #[.int .i64 x, .int .i64 y]) ∧ w = w' := by
  unfold maxLen at hs
  have hsz := Lib.size_eq s
  have HZ := Lib.hid hsz
  clear hsz
  go_enter Tryd.func80, Tryd.ntmps80
  go_wp2
  go_loop [4] (fun i => ∃ k : Nat, k ≤ s.size ∧ i = .int .i64 k ∧ Hid (∀ (j : Nat) (c : UInt8), j < k → s.data.toList[j]? = some c → clsN c.toNat = 2)) (fun i => s.size - (intOf i).toNat)
  case atStart => exact ⟨0, by omega, rfl, fun j c h => by omega⟩
  case round =>
    obtain ⟨k, hk, rfl, HR⟩ := hrel
    by_cases hlt : k < s.size
    · have h255 : s[k].toNat < 256 := s[k].toNat_lt
      have hgk := Lib.hid (show s.data.toList[k]? = some s[k] from List.getElem?_eq_getElem (by rw [← Lib.size_eq]; exact hlt))
      by_cases hsp : clsN (s[k].toNat : Int) = 2
      · have ht : (clsN (s[k].toNat : Int) == 2) = true := by rw [hsp]; rfl
        have HP := Lib.hid hsp
        clear hsp
        go_wp2_with (go_at_call 99; refine (cls_any _ _ (by omega) (by omega)).mono ?_; rintro e w' ⟨rfl, rfl⟩)
        refine ⟨⟨k + 1, by omega, by go_num, fun j c hj hc => ?_⟩, by simp [intOf]; try omega⟩
        by_cases hjk : j = k
        · subst hjk
          rw [hgk.out] at hc
          injection hc with hc
          subst hc
          exact HP.out
        · exact HR.out j c (by omega) hc
      · have ht : (clsN (s[k].toNat : Int) == 2) = false := by simpa using hsp
        have hne : ((k : Int) == (s.size : Int)) = false := by simp; omega
        have HP := Lib.hid hsp
        clear hsp
        go_wp2_with (go_at_call 99; refine (cls_any _ _ (by omega) (by omega)).mono ?_; rintro e w' ⟨rfl, rfl⟩)
        go_loop [5] (fun i => ∃ u : Nat, k ≤ u ∧ u < s.size ∧ i = .int .i64 ((u : Int) + 1) ∧ Hid (∀ (j : Nat) (c : UInt8), u + 1 ≤ j → s.data.toList[j]? = some c → clsN c.toNat = 2)) (fun i => (intOf i).toNat)
        case atStart =>
          refine ⟨s.size - 1, by omega, by omega, by go_num, fun j c hj hc => ?_⟩
          have := (List.getElem?_eq_some_iff.1 hc).1
          rw [← HZ.out] at this
          omega
        case round =>
          obtain ⟨u, hu1, hu2, rfl, HU⟩ := hrel
          have h255' : s[u].toNat < 256 := s[u].toNat_lt
          have hgu := Lib.hid (show s.data.toList[u]? = some s[u] from List.getElem?_eq_getElem (by rw [← Lib.size_eq]; exact hu2))
          by_cases hsp2 : clsN (s[u].toNat : Int) = 2
          · have hne : k ≠ u := by
              rintro rfl
              exact HP.out hsp2
            have ht2 : (clsN (s[u].toNat : Int) == 2) = true := by rw [hsp2]; rfl
            have HP2 := Lib.hid hsp2
            clear hsp2
            go_wp2_with (go_at_call 99; refine (cls_any _ _ (by omega) (by omega)).mono ?_; rintro e w' ⟨rfl, rfl⟩)
            refine ⟨⟨u - 1, by omega, by omega, by go_num, fun j c hj hc => ?_⟩, by simp [intOf]; try omega⟩
            by_cases hju : j = u
            · subst hju
              rw [hgu.out] at hc
              injection hc with hc
              subst hc
              exact HP2.out
            · exact HU.out j c (by omega) hc
          · have ht2 : (clsN (s[u].toNat : Int) == 2) = false := by simpa using hsp2
            have HP2 := Lib.hid hsp2
            clear hsp2
            go_wp2_with (go_at_call 99; refine (cls_any _ _ (by omega) (by omega)).mono ?_; rintro e w' ⟨rfl, rfl⟩)
            go_ret2
            refine ⟨k, u + 1, .inr ⟨by omega, by rw [← HZ.out]; omega, fun c hc => ?_, fun c hc => ?_, fun j c hj hc => HR.out j c hj hc, fun j c hj hc => HU.out j c hj hc⟩, by go_num, rfl⟩
            · rw [hgk.out] at hc
              injection hc with hc
              subst hc
              exact HP.out
            · rw [Nat.add_sub_cancel, hgu.out] at hc
              injection hc with hc
              subst hc
              exact HP2.out
    · obtain rfl : k = s.size := by omega
      go_wp2
      go_ret2
      refine ⟨0, 0, .inl ⟨rfl, rfl, fun j c hc => HR.out j c ?_ hc⟩, rfl, rfl⟩
      have := (List.getElem?_eq_some_iff.1 hc).1
      rw [← HZ.out] at this
      exact this

end Go.Proofs.YtpboaadjbkaidaaDoor

namespace Go.Proofs.YtpboaadjbkaidaaDoor
set_option maxRecDepth 100000
open Go.RowKit

/-- A range as cells. -/
def rangeC (r : Nat × Nat) : List Value := [.int .i64 (r.1 : Int), .int .i64 (r.2 : Int)]
theorem rangeC_two (r : Nat × Nat) : (rangeC r).length = 2 := rfl
theorem range_info : (Tryd.prog.info? 78).map (fun i => (i.zero, i.size, i.bytes)) = some (some (.agg #[.int .i64 0, .int .i64 0]), 2, 16) := by kernel_rfl
theorem range_one (r : Nat × Nat) : ∀ u ∈ rangeC r, u.oneCell' = true := by
  intro u hu
  simp [rangeC] at hu
  rcases hu with rfl | rfl <;> rfl

/-- A row of ranges of the call's own. -/
abbrev Ranges (w : World) (B : Nat) (v : Value) (l : List (Nat × Nat)) : Prop := w.ownsRow B 78 2 v l.length (l.flatMap rangeC)
theorem Ranges.nil (w : World) (B : Nat) : Ranges w B (.slice none 0 0) [] := World.ownsRow_nil _ _ _ _

theorem Ranges.snoc {w : World} {B : Nat} {v : Value} {l : List (Nat × Nat)} {x : Nat × Nat} (h : w.ownsRow B 78 2 v (l.length + 1) (l.flatMap rangeC ++ rangeC x)) : Ranges w B v (l ++ [x]) := by
  unfold Ranges
  rw [List.length_append, List.flatMap_append]
  simpa using h

end Go.Proofs.YtpboaadjbkaidaaDoor

namespace Go.Proofs.YtpboaadjbkaidaaDoor
set_option maxRecDepth 100000
open Go.RowKit

theorem box2 {w : World} {b : Nat} {v0 v1 : Value} {t : TypeId} (h : w.heap[b]? = some (.cells #[v0, v1] t)) :
    w.cell? ⟨b, 0, none⟩ = some v0 ∧ w.cell? ⟨b, 1, none⟩ = some v1 ∧ w.frozen? ⟨b, 0, none⟩ = false ∧ w.frozen? ⟨b, 1, none⟩ = false :=
  ⟨by rw [cell_of_row _ _ 0 _ _ _ h]; rfl, by rw [cell_of_row _ _ 1 _ _ _ h]; rfl, frozen_of_row w b 0 _ _ h, frozen_of_row w b 1 _ _ h⟩
/-- A row of ints, or of Bools, at a place. -/
theorem rd_one {α : Type} {g : α → List Value} {w : World} {A : Option Addr} {n c : Nat} {l : List α} (h : RdE g 1 w (.slice A n c) l) (k : Nat) (x : α) (u : Value) (hx : l[k]? = some x) (hu : (g x)[0]? = some u) : ∃ b o, A = some ⟨b, o, none⟩ ∧ b < w.heap.size ∧ w.cell? ⟨b, o + k, none⟩ = some u := by
  obtain ⟨b, o, hA, hb, hc⟩ := h.cells (by have := (List.getElem?_eq_some_iff.1 hx).1; omega)
  refine ⟨b, o, hA, hb, ?_⟩
  have := hc k x 0 u hx hu
  rwa [show o + (k * 1 + 0) = o + k by omega] at this

set_option maxRecDepth 100000 in
set_option maxHeartbeats 16000000 in
theorem ranges_any (rs : List Ru) (vr : Value) (f : List Tk) (v : Value) (w : World) (hr : RdRu w vr rs) (hsm : RuSmall rs) (h1 : RdT w v f) (hl : lenI f ≤ 1000000) (hfl : f.length ≤ 100000) :
    Calls Tryd.prog 43 #[vr, v] w (RetOwn 78 rangeC 2 w (rangesF rs f)) := by
  obtain ⟨R, HRR⟩ : ∃ R, Hid (R = RetOwn 78 rangeC 2 w (rangesF rs f)) := ⟨_, rfl⟩
  rw [← HRR.out]
  obtain ⟨A, c, rfl, _, _⟩ := h1.shape
  have HPL := Lib.hid (iplain_any f _ w h1 (by omega) (by omega))
  have hps := plS_size f
  have hpl := plI_len f
  have HBR := Lib.hid (fun (u : World) (h : Below w.heap.size w u) => breaks_any rs vr (plS f) u (hr.below h (Nat.le_refl _)) hsm.1 hsm.2)
  have HRD := Lib.hid (fun (u : World) (h : Below w.heap.size w u) => RdE.below h1 h (Nat.le_refl _))
  have HCO := Lib.hid (cuts_ok rs f)
  have hbl := bnF_len rs (plS f)
  have HBL := Lib.hid (bnF_le rs (plS f))
  have HGO : Hid (rangesF rs f = rngF (sqF f) 0 (cutsF f (bnF rs (plS f)))) := rfl
  rw [breaks_nat] at HBR
  generalize bnF rs (plS f) = bn at HBR HCO hbl HBL HGO
  generalize plS f = s at HPL HBR hps hbl HBL
  have hcl := cuts_len f bn
  have HCA := Lib.hid (fun k (h : k < bn.length) => cuts_at f bn k h)
  have HCE := Lib.hid (cuts_end f bn)
  generalize cutsF f bn = cs at HCO HGO hcl HCA HCE
  obtain ⟨lv, hlv⟩ : ∃ lv, Hid (lv = lenI f) := ⟨_, rfl⟩
  have hbn : bn.length ≤ 1000000 := by omega
  clear h1 hr
  go_enter Tryd.func43, Tryd.ntmps43
  go_wp2_with (first
    | (go_at_call 72; refine HPL.out.mono ?_; rintro e w1 ⟨rfl, hb1⟩; have HB1 := Lib.hid hb1)
    | (go_at_call 16; refine (HBR.out _ HB1.out).mono ?_; rintro e w2 ⟨v2, rfl, ho2, hb2⟩; have HB2 := Lib.hid (HB1.out.trans (hb2.mono HB1.out.size)); obtain ⟨Ab, cb, hvb⟩ := own_shape ho2; rw [List.length_map] at hvb; subst hvb))
  have HRB := Lib.hid (OwnE.rd (f := intC) (m := 1) (fun _ => rfl) ho2)
  have hz2 := HB2.out.size
  have HPA := Lib.hid (fun (o : Int) (u : World) (h : Below w2.heap.size w2 u) => place5_any f _ o u (HRD.out u (HB2.out.trans (h.mono hz2))) hl (by omega))
  have HLN := Lib.hid (fun (u : World) (h : Below w2.heap.size w2 u) => ilength_any f _ u (HRD.out u (HB2.out.trans (h.mono hz2))) (by omega) (by omega))
  clear ho2 hb2 hb1 HB1 HPL HBR
  obtain ⟨wo, HWO⟩ : ∃ wo, Hid (wo = w2) := ⟨w2, rfl⟩
  go_loopg [5, 7, 23] bn.length (fun gk ov bv jv wr => ∃ (k : Nat) (q : List Int) (Ac : Option Addr) (cc : Nat), ov = .slice Ac q.length cc ∧ jv = .int .i64 k ∧ k ≤ bn.length ∧ Hid (q = (cs.map fun (x : Nat) => (x : Int)).take k) ∧ q.length ≤ k ∧ Hid (OwnE 3 intC 1 wr w2.heap.size (.slice Ac q.length cc) q) ∧ Hid (Below w2.heap.size w2 wr) ∧ bn.length - k ≤ gk)
  case atStart => exact ⟨0, [], none, 0, rfl, rfl, Nat.zero_le _, by (show _ = _); rw [List.take_zero], by simp, OwnE.nil, Below.refl _ _, by omega⟩
  case round =>
    clear HWO
    obtain ⟨k, q, Ac, cc, rfl, rfl, hk, HQ, hqk, HO, HB, hgk⟩ := hrel
    have hsz := HB.out.size
    by_cases hkl : k < bn.length
    · have hki : (k : Int) < (bn.length : Int) := by omega
      have hk0 : (0 : Int) ≤ (k : Int) := by omega
      have hcsl : k < cs.length := by omega
      have hget : (bn.map fun (x : Nat) => (x : Int))[k]? = some (bn[k] : Int) := by rw [List.getElem?_map, List.getElem?_eq_getElem hkl]; rfl
      obtain ⟨b, o, rfl, hb, q1⟩ := rd_one HRB.out k _ _ hget rfl
      rw [← HB.out.cell (p := ⟨b, o + k, none⟩) hb] at q1
      have hbs := HBL.out _ (List.getElem_mem hkl)
      have HPK := Lib.hid (HPA.out (bn[k] : Int) wr HB.out)
      have hca : cs[k] = placeP (posI f) bn[k] := by
        have h := HCA.out k hkl
        rw [List.getElem?_eq_getElem hcsl] at h
        exact Option.some.inj h
      rw [placeF_nat f bn[k] (by omega), ← hca] at HPK
      clear hca
      have HQ2 : Hid (q ++ [(cs[k] : Int)] = (cs.map fun (x : Nat) => (x : Int)).take (k + 1)) := by
        show _ = _
        rw [List.take_succ_eq_append_getElem (by rw [List.length_map]; exact hcsl), ← HQ.out, List.getElem_map]
      generalize cs[k] = ck at HPK HQ2
      generalize bn[k] = bk at q1 HPK
      clear hget
      have hb2 : b < wr.heap.size := by omega
      go_wp2_with (first
        | (go_at_call 37; refine HPK.out.mono ?_; rintro e w3 ⟨rfl, hb3⟩; have HB3 := Lib.hid (HB.out.trans (hb3.mono hsz)); have HO3 := Lib.hid (own_below HO.out hb3 (Nat.le_refl _)); have hs3 := HB3.out.size; clear hb3 HB HO)
        | (at_builtin; go_must (refine wpList_app1 rfl (.tmp 27) (.tmp 31) 32 3 rfl Tryd.underlying32 _ 1 8 int_info6 rfl (by decide) w2.heap.size (.slice Ac q.length cc) q.length (q.flatMap intC) rfl (own_below HO3.out ((Below.refl _ w3).alloc (Nat.le_refl _) _) (Nat.le_refl _)) ⟨w3.heap.size, 0, none⟩ 1 (intC ck) rfl rfl (cells_new w3 (intC ck) 3) (intC_oneA ck) (by omega) (by decide) (by simp; omega) ?_); intro g9 cap w9 hown9 hbg9 hbel9 hgrow9))
      have hbn9 := hbel9 w2.heap.size w3 (Nat.le_refl _) ((Below.refl w2.heap.size w3).alloc hs3 (.cells (intC ck).toArray 3))
      have HB9 := Lib.hid (HB3.out.trans hbn9)
      have HO9 : Hid (OwnE 3 intC 1 w9 w2.heap.size (.slice (some ⟨g9, 0, none⟩) (q.length + 1) cap) (q ++ [(ck : Int)])) := OwnE.snoc hown9
      clear hown9 hbel9 hgrow9 hbn9
      go_wp2_with fail
      go_roundg (bn.length - (k + 1))
      case measure => omega
      case rel => exact ⟨k + 1, q ++ [(ck : Int)], some ⟨g9, 0, none⟩, cap, by (show Value.slice _ _ _ = Value.slice _ _ _); rw [List.length_append]; rfl, rfl, by omega, HQ2.out, by rw [List.length_append]; show q.length + 1 ≤ k + 1; omega, by (show OwnE _ _ _ _ _ _ _); rw [List.length_append]; exact HO9.out, HB9.out, by omega⟩
    · obtain rfl : k = bn.length := by omega
      have HQ2 : Hid (q ++ [(lv : Int)] = (cs.map fun (x : Nat) => (x : Int))) := by
        show _ = _
        have h := List.take_succ_eq_append_getElem (l := cs.map fun (x : Nat) => (x : Int)) (i := bn.length) (by rw [List.length_map]; omega)
        have hce : cs[bn.length]'(by omega) = lenI f := by
          have h := HCE.out
          rw [List.getElem?_eq_getElem (by omega)] at h
          exact Option.some.inj h
        rw [List.take_of_length_le (by rw [List.length_map]; omega), ← HQ.out, List.getElem_map, hce, ← hlv.out] at h
        exact h.symm
      have hq1 : q.length + 1 = cs.length := by
        have := congrArg List.length HQ2.out
        rw [List.length_append, List.length_map] at this
        exact this
      have HQ1 := Lib.hid hq1
      have HLK := Lib.hid (HLN.out wr HB.out)
      rw [← hlv.out] at HLK
      have hlv2 : lv ≤ 1000000 := by have := hlv.out; omega
      clear hq1
      go_upto_region 8 with (first
        | (go_at_call 76; refine HLK.out.mono ?_; rintro e w3 ⟨rfl, hb3⟩; have HB3 := Lib.hid (HB.out.trans (hb3.mono hsz)); have HO3 := Lib.hid (own_below HO.out hb3 (Nat.le_refl _)); have hs3 := HB3.out.size; clear hb3 HB HO)
        | (at_builtin; go_must (refine wpList_app1 rfl (.tmp 34) (.tmp 37) 32 3 rfl Tryd.underlying32 _ 1 8 int_info6 rfl (by decide) w2.heap.size (.slice Ac q.length cc) q.length (q.flatMap intC) rfl (own_below HO3.out ((Below.refl _ w3).alloc (Nat.le_refl _) _) (Nat.le_refl _)) ⟨w3.heap.size, 0, none⟩ 1 (intC lv) rfl rfl (cells_new w3 (intC lv) 3) (intC_oneA lv) (by omega) (by decide) (by simp; omega) ?_); intro g9 cap w9 hown9 hbg9 hbel9 hgrow9))
      have hbn9 := hbel9 w2.heap.size w3 (Nat.le_refl _) ((Below.refl w2.heap.size w3).alloc hs3 (.cells (intC lv).toArray 3))
      have HB9 := Lib.hid (HB3.out.trans hbn9)
      have HO9 : Hid (OwnE 3 intC 1 w9 w2.heap.size (.slice (some ⟨g9, 0, none⟩) (q.length + 1) cap) (q ++ [(lv : Int)])) := OwnE.snoc hown9
      rw [HQ2.out, HQ1.out] at HO9
      rw [HQ1.out]
      have HRC := Lib.hid (OwnE.rd (f := intC) (m := 1) (fun _ => rfl) HO9.out)
      have HBW := Lib.hid (HB2.out.trans (HB9.out.mono hz2))
      clear hown9 hbel9 hgrow9 hbn9 HO9 HB9 HB3 HO3 hs3 HQ HQ2 HQ1 HRB HPA HLN hqk hgk hsz HBL HCA HCE hps hpl hbg9 hz2 HB2
      have HRC2 := HRC
      have HPLC := Lib.hid (fun (u : World) (h : Below w9.heap.size w9 u) => blanks_any f _ u (HRD.out u (HBW.out.trans (h.mono HBW.out.size))) (by omega) (by omega))
      go_wp2_with (go_at_call 77; refine (HPLC.out _ (Below.refl _ _)).mono ?_; rintro e w10 ⟨v10, rfl, ho10, hb10⟩)
      have hspl := spF_len f
      have HSP : Hid (spF f = (sqF f).map (·.2)) := rfl
      have HRS := Lib.hid (OwnE.rd boolC_len ho10)
      obtain ⟨As, cs10, hv10⟩ := own_shape ho10
      subst hv10
      have HBX := Lib.hid (HBW.out.trans (hb10.mono HBW.out.size))
      have HRCX := Lib.hid (HRC.out.below hb10 (Nat.le_refl _))
      have HSL := Lib.hid (fun (p q : Nat) (u : World) (h : Below w10.heap.size w10 u) (hpq : p ≤ q) (hq : q ≤ lenI f) => islice_any f _ p q u (HRD.out u (HBX.out.trans (h.mono HBX.out.size))) (by omega) (by omega) hpq hq)
      have HLS := Lib.hid (fun p q => slI_len f 0 p q)
      have HLW : Hid (∀ p q, lenI (slI f 0 p q) ≤ lenI f) := fun p q => by
        have h1 := posI_len (slI f 0 p q)
        rw [posI_sl, List.length_drop, List.length_take] at h1
        have h2 := posI_len f
        omega
      have HSA : Hid (∀ p t, t ≤ lenI f → (plI (slI f 0 p t)).any (fun c => !spcB c) = true → ∃ x y, sgF (sqF f) p t = [(x, y)] ∧ SegAt (spF f) p t x y) := fun p t ht ha => segAt f p t ht ha
      clear ho10 hb10 HPLC HRC HBW HRD
      clear HSP
      generalize spF f = S at HRS hspl HSA
      generalize lenI f = n at hl hspl HCO HSL HLW hlv HSA
      have HSPL := Lib.hid hspl
      clear hspl
      have hz10 := HBX.out.size
      obtain ⟨wo, HWO⟩ : ∃ wo, Hid (wo = w10) := ⟨w10, rfl⟩
      go_loopg [9, 10, 12, 13, 14, 15, 16, 17, 43] cs.length (fun gk ov fv tv pv sv lv hv rv jv wr => ∃ (k p : Nat) (q : List (Nat × Nat)) (Ac : Option Addr) (cc : Nat), ov = .slice Ac q.length cc ∧ fv = .int .i64 p ∧ jv = .int .i64 k ∧ k ≤ cs.length ∧ Hid (p = (0 :: cs).getD k 0) ∧ Hid (q = rngF (sqF f) 0 (cs.take k)) ∧ q.length ≤ k ∧ Hid (OwnE 78 rangeC 2 wr w10.heap.size (.slice Ac q.length cc) q) ∧ Hid (Below w10.heap.size w10 wr) ∧ cs.length - k ≤ gk)
      case atStart => exact ⟨0, 0, [], none, 0, rfl, rfl, rfl, Nat.zero_le _, rfl, by (show _ = _); rw [List.take_zero]; rfl, by simp, OwnE.nil, Below.refl _ _, by omega⟩
      case round =>
        clear HWO
        obtain ⟨k, p, q, Ac, cc, rfl, rfl, rfl, hk, HP, HQ, hqk, HO, HB, hgk⟩ := hrel
        have hsz := HB.out.size
        by_cases hkl : k < cs.length
        · have hki : (k : Int) < (cs.length : Int) := by omega
          have hk0 : (0 : Int) ≤ (k : Int) := by omega
          obtain ⟨hpt, htn⟩ := AscF.at_ k hkl HCO.out
          rw [← HP.out] at hpt
          have HTK := Lib.hid (rngF_take (sqF f) cs 0 k hkl)
          rw [← HP.out, ← HQ.out] at HTK
          have HGT : Hid ((0 :: cs).getD (k + 1) 0 = cs[k]) := by
            show _ = _
            rw [List.getD_cons_succ, List.getD_eq_getElem?_getD, List.getElem?_eq_getElem hkl]
            rfl
          obtain ⟨b, o, hA, hb, q1⟩ := rd_one HRCX.out k _ _ (show (cs.map fun (x : Nat) => (x : Int))[k]? = some (cs[k] : Int) by rw [List.getElem?_map, List.getElem?_eq_getElem hkl]; rfl) rfl
          injection hA with hA
          injection hA with hA1 hA2 _
          subst hA1 hA2
          rw [← HB.out.cell (p := ⟨g9, 0 + k, none⟩) hb, Nat.zero_add] at q1
          have hb2 : g9 < wr.heap.size := by omega
          generalize cs[k] = t at hpt htn HTK HGT q1
          have ht2 : t ≤ 1000000 := by omega
          have HSK := Lib.hid (HSL.out p t wr HB.out hpt (by omega))
          have hgl := HLS.out p t
          have hgw := HLW.out p t
          have HST := Lib.hid (HSA.out p t (by omega))
          have HNO := Lib.hid (segNo f p t)
          generalize slI f 0 p t = g at HSK hgl hgw HST HNO
          have HPG := Lib.hid (fun (v : Value) (u : World) (h : RdT u v g) => iplain_any g v u h (by omega) (by omega))
          have hgs := plS_size g
          have hgp := plI_len g
          have HGL : Hid ((plS g).data.toList = plI g) := by show (plI g).toArray.toList = _; simp
          have HTR := Lib.hid (fun (u : World) => trim_any (plS g) u (by unfold maxLen; omega))
          rw [HGL.out] at HTR
          generalize plI g = gl at HTR HST HNO
          generalize plS g = gs at HPG HTR
          clear hgs hgp HGL
          by_cases ha : gl.any (fun c => !spcB c) = true
          · obtain ⟨x, y, hsg, hat⟩ := HST.out ha
            rw [hsg] at HTK
            have HAT := Lib.hid hat
            have hpx := hat.px
            have hxy := hat.xy
            have hyt := hat.yq
            clear hsg hat HST HNO
            go_upto_region 17 with (first
              | (go_at_call 78; refine HSK.out.mono ?_; rintro e w3 ⟨v3, rfl, ho3, hb3⟩; obtain ⟨A3, c3, hv3⟩ := own_shape ho3; subst hv3; have HB3 := Lib.hid (HB.out.trans (hb3.mono hsz)); have HR3 := Lib.hid (OwnE.rd tkC_three ho3); have HO3 := Lib.hid (own_below HO.out hb3 (Nat.le_refl _)))
              | (go_at_call 72; refine (HPG.out _ _ HR3.out).mono ?_; rintro e w4 ⟨rfl, hb4⟩; have HB4 := Lib.hid (HB3.out.trans (hb4.mono HB3.out.size)); have HO4 := Lib.hid (own_below HO3.out hb4 (Nat.le_refl _)))
              | (go_at_call 79; refine (HTR.out _).mono ?_; rintro e w5 ⟨x9, y9, hT, rfl, rfl⟩; have hx9 := (trim_any_iff hT).2 ha; have hx9i : (x9 : Int) < (y9 : Int) := by omega))
            have HX : Hid ((w4.alloc (.cells #[.int .i64 (p : Int), .int .i64 (t : Int)] 78)).heap[w4.heap.size]? = some (.cells #[.int .i64 (p : Int), .int .i64 (t : Int)] 78)) := heap_alloc_new w4 _
            have HA := Lib.hid ((Below.refl w4.heap.size w4).alloc (Nat.le_refl _) (.cells #[.int .i64 (p : Int), .int .i64 (t : Int)] 78))
            have hz4 := HB4.out.size
            clear hb3 ho3 hb4 HR3 HB3 HO3 HO HB HSK HPG HTR hT hx9 q1 hb hb2
            go_wp2_with fail
            generalize w4.alloc (.cells #[.int .i64 (p : Int), .int .i64 (t : Int)] 78) = w5 at HX HA ⊢
            obtain ⟨r, hr⟩ : ∃ r, Hid (r = w4.heap.size) := ⟨_, rfl⟩
            rw [← hr.out] at HX ⊢
            have hr4 : w4.heap.size ≤ r := Nat.le_of_eq hr.out.symm
            obtain ⟨wo, HWO⟩ : ∃ wo, Hid (wo = w5) := ⟨w5, rfl⟩
            go_loopg [68] (x - p) (fun gk tv wr => ∃ j : Nat, p ≤ j ∧ j ≤ x ∧ Hid (wr.heap[r]? = some (.cells #[.int .i64 (j : Int), .int .i64 (t : Int)] 78)) ∧ Hid (Below w4.heap.size w4 wr) ∧ x - j ≤ gk)
            case atStart => exact ⟨p, Nat.le_refl _, hpx, HX.out, HA.out, by omega⟩
            case round =>
              clear HX HA HWO
              obtain ⟨j, hpj, hjx, HX, HA, hgj⟩ := hrel
              obtain ⟨x0, x1, y0, y1⟩ := box2 HX.out
              have hrl : r < wr.heap.size := (Array.getElem?_eq_some_iff.1 HX.out).1
              have HBJ := HB4.out.trans (HA.out.mono hz4)
              have hj0 : (0 : Int) ≤ (j : Int) := by omega
              by_cases hj : j < x
              · have hS := HAT.out.lead j hpj hj
                have hjl : (j : Int) < (S.length : Int) := by have := (List.getElem?_eq_some_iff.1 hS).1; omega
                obtain ⟨bs, os, hAs, hbs, q3⟩ := rd_one HRS.out j true _ hS rfl
                subst hAs
                rw [← HBJ.cell (p := ⟨bs, os + j, none⟩) hbs] at q3
                clear hS HBJ hbs
                go_wp2_with fail
                have HX2 : Hid ((wr.setCell ⟨r, 0, none⟩ (.int .i64 ((j : Int) + 1))).heap[r]? = some (.cells #[.int .i64 ((j + 1 : Nat) : Int), .int .i64 (t : Int)] 78)) := set_rw1 HX.out 0 _
                have HA2 := Lib.hid (HA.out.setCell (p := ⟨r, 0, none⟩) hr4 (.int .i64 ((j : Int) + 1)))
                go_roundg (x - (j + 1))
                case measure => omega
                case rel => exact ⟨j + 1, by omega, by omega, HX2.out, HA2.out, by omega⟩
              · obtain rfl : j = x := by omega
                have hS := HAT.out.atx
                have hjl : (j : Int) < (S.length : Int) := by have := (List.getElem?_eq_some_iff.1 hS).1; omega
                obtain ⟨bs, os, hAs, hbs, q3⟩ := rd_one HRS.out j false _ hS rfl
                subst hAs
                rw [← HBJ.cell (p := ⟨bs, os + j, none⟩) hbs] at q3
                clear hS HBJ hbs
                go_wp2_with fail
                clear q3 x0 x1 y0 y1 hrl
                obtain ⟨wo, HWO⟩ : ∃ wo, Hid (wo = wr) := ⟨wr, rfl⟩
                go_loopg [77] (t - y) (fun gk tv wr => ∃ m : Nat, y ≤ m + 1 ∧ m + 1 ≤ t ∧ Hid (wr.heap[r]? = some (.cells #[.int .i64 (j : Int), .int .i64 ((m : Int) + 1)] 78)) ∧ Hid (Below w4.heap.size w4 wr) ∧ m + 1 - y ≤ gk)
                case atStart => exact ⟨t - 1, by omega, by omega, by (show _ = _); rw [show ((t - 1 : Nat) : Int) + 1 = (t : Int) by omega]; exact HX.out, HA.out, by omega⟩
                case round =>
                  clear HX HA HWO
                  obtain ⟨m, hym, hmt, HX, HA, hgm⟩ := hrel
                  obtain ⟨x0, x1, y0, y1⟩ := box2 HX.out
                  have hrl : r < wr.heap.size := (Array.getElem?_eq_some_iff.1 HX.out).1
                  have HBJ := HB4.out.trans (HA.out.mono hz4)
                  have hm0 : (0 : Int) ≤ (m : Int) := by omega
                  by_cases hm : y ≤ m
                  · have hS := HAT.out.tail m hm (by omega)
                    have hml : (m : Int) < (S.length : Int) := by have := (List.getElem?_eq_some_iff.1 hS).1; omega
                    obtain ⟨bs, os, hAs, hbs, q3⟩ := rd_one HRS.out m true _ hS rfl
                    try (injection hAs with hAs; injection hAs with h1 h2 _; subst h1 h2)
                    rw [← HBJ.cell (p := ⟨_, _ + m, none⟩) hbs] at q3
                    clear hS HBJ hbs
                    go_wp2_with fail
                    have HX2 : Hid ((wr.setCell ⟨r, 1, none⟩ (.int .i64 (m : Int))).heap[r]? = some (.cells #[.int .i64 (j : Int), .int .i64 (((m - 1 : Nat) : Int) + 1)] 78)) := by
                      show _ = _
                      rw [show ((m - 1 : Nat) : Int) + 1 = (m : Int) by omega]
                      exact set_rw1 HX.out 1 _
                    have HA2 := Lib.hid (HA.out.setCell (p := ⟨r, 1, none⟩) hr4 (.int .i64 (m : Int)))
                    go_roundg (m - y)
                    case measure => omega
                    case rel => exact ⟨m - 1, by omega, by omega, HX2.out, HA2.out, by omega⟩
                  · obtain rfl : y = m + 1 := by omega
                    have hS := HAT.out.aty
                    rw [Nat.add_sub_cancel] at hS
                    have hml : (m : Int) < (S.length : Int) := by have := (List.getElem?_eq_some_iff.1 hS).1; omega
                    obtain ⟨bs, os, hAs, hbs, q3⟩ := rd_one HRS.out m false _ hS rfl
                    try (injection hAs with hAs; injection hAs with h1 h2 _; subst h1 h2)
                    rw [← HBJ.cell (p := ⟨_, _ + m, none⟩) hbs] at q3
                    have HOJ := Lib.hid (World.ownsRow.alloc (own_below HO4.out HA.out (Nat.le_refl _)) (.cells (rangeC (j, m + 1)).toArray 78))
                    have HBJ2 := Lib.hid HBJ
                    have hzj := HBJ.size
                    clear hS HBJ hbs
                    go_wp2_with (at_builtin; go_must (refine wpList_app1 rfl (.tmp 85) (.tmp 87) 73 78 rfl Tryd.underlying73 _ 2 16 range_info rfl (by decide) w10.heap.size (.slice Ac q.length cc) q.length (q.flatMap rangeC) rfl (by exact HOJ.out) ⟨wr.heap.size, 0, none⟩ 1 (rangeC (j, m + 1)) rfl rfl (by exact cells_new _ _ _) (range_one _) (by omega) (by decide) (by simp; omega) ?_); intro g8 cap8 w8 hown8 hbg8 hbel8 hgr8)
                    have HO8 : Hid (OwnE 78 rangeC 2 w8 w10.heap.size (.slice (some ⟨g8, 0, none⟩) (q.length + 1) cap8) (rngF (sqF f) 0 (cs.take (k + 1)))) := by
                      show OwnE _ _ _ _ _ _ _
                      rw [HTK.out]
                      exact OwnE.snoc (f := rangeC) hown8
                    have HB8 := Lib.hid (hbel8 _ _ (Nat.le_refl _) (HBJ2.out.alloc hzj (.cells (rangeC (j, m + 1)).toArray 78)))
                    have HL8 : Hid ((rngF (sqF f) 0 (cs.take (k + 1))).length = q.length + 1) := by
                      show _ = _
                      rw [HTK.out, List.length_append]
                      rfl
                    clear hown8 hbel8 hgr8 q3 x0 x1 y0 y1
                    go_wp2_with fail
                    go_roundg (cs.length - (k + 1))
                    case measure => omega
                    case rel => exact ⟨k + 1, t, _, some ⟨g8, 0, none⟩, cap8, by rw [HL8.out], rfl, rfl, by omega, HGT.out.symm, rfl, by rw [HL8.out]; omega, by (show OwnE _ _ _ _ _ _ _); rw [HL8.out]; exact HO8.out, HB8.out, by omega⟩
          · have HT2 : Hid (rngF (sqF f) 0 (cs.take (k + 1)) = q) := by
              show _ = _
              rw [HTK.out, HNO.out ha, List.append_nil]
            clear HST HNO
            go_wp2_with (first
              | (go_at_call 78; refine HSK.out.mono ?_; rintro e w3 ⟨v3, rfl, ho3, hb3⟩; obtain ⟨A3, c3, hv3⟩ := own_shape ho3; subst hv3; have HB3 := Lib.hid (HB.out.trans (hb3.mono hsz)); have HR3 := Lib.hid (OwnE.rd tkC_three ho3); have HO3 := Lib.hid (own_below HO.out hb3 (Nat.le_refl _)))
              | (go_at_call 72; refine (HPG.out _ _ HR3.out).mono ?_; rintro e w4 ⟨rfl, hb4⟩; have HB4 := Lib.hid (HB3.out.trans (hb4.mono HB3.out.size)); have HO4 := Lib.hid (own_below HO3.out hb4 (Nat.le_refl _)))
              | (go_at_call 79; refine (HTR.out _).mono ?_; rintro e w5 ⟨x9, y9, hT, rfl, rfl⟩; have hx9 : ¬ x9 < y9 := fun h => ha ((trim_any_iff hT).1 h); have hx9i : ¬ (x9 : Int) < (y9 : Int) := by omega))
            go_roundg (cs.length - (k + 1))
            case measure => omega
            case rel => exact ⟨k + 1, t, q, Ac, cc, rfl, rfl, rfl, by omega, HGT.out.symm, HT2.out.symm, by omega, HO4.out, HB4.out, by omega⟩
        · obtain rfl : k = cs.length := by omega
          rw [List.take_length, ← HGO.out] at HQ
          go_wp2_with fail
          rw [HRR.out, ← HQ.out]
          exact ⟨_, rfl, own_base HO.out hz10, HBX.out.trans (HB.out.mono hz10)⟩

end Go.Proofs.YtpboaadjbkaidaaDoor
