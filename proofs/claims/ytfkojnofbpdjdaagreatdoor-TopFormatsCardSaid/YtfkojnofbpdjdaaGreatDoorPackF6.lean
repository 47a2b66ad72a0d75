/-
  Contracts and plain laws that this claim leans on, part 6.
-/
import Derived.Test.YtfkojnofbpdjdaaGreatDoorPackF5
import Derived.Test.YtfkojnofbpdjdaaGreatDoorPackF1
import Derived.Test.YtfkojnofbpdjdaaGreatDoorPackF4
import Derived.Test.YtfkojnofbpdjdaaGreatDoorPackF3
import Derived.Test.YtfkojnofbpdjdaaGreatDoorPackF2
import Derived.Deep.LoopGhost
set_option linter.unusedVariables false
set_option linter.unusedSimpArgs false
namespace Go.Proofs.YtfkojnofbpdjdaaGreatDoor
set_option maxRecDepth 100000
open Go.RowKit

theorem ruC_oneA (x : RuV) : (ruC x).toArray.all (·.oneCell') = true := by
  rw [Array.all_eq_true_iff_forall_mem]
  intro v hv
  exact ruC_one x v (List.mem_toArray.1 hv)
theorem int_info6 : (Tryz.prog.info? 3).map (fun i => (i.zero, i.size, i.bytes)) = some (some (.int .i64 0), 1, 8) := by kernel_rfl
theorem intC_oneA (x : Int) : ∀ u ∈ intC x, u.oneCell' = true := by
  intro u hu
  simp [intC] at hu
  subst hu
  rfl
theorem ld_slice {w : World} {b o : Nat} {A : Option Addr} {n c : Nat} (h : w.cell? ⟨b, o, none⟩ = some (.slice A n c)) : (Instr.loadAt 108 (.pointer (some ⟨b, o, none⟩))).run Tryz.prog w = .ok (.slice A n c) w := by
  go_simp

set_option maxRecDepth 100000 in
set_option maxHeartbeats 8000000 in
theorem breaks_any (rs : List Ru) (v : Value) (s : ByteArray) (w : World) (ht : RdRu w v rs) (hl : rs.length ≤ 1000000) (hal : ∀ r ∈ rs, r.bf.length ≤ 1000000 ∧ r.af.length ≤ 1000000) :
    Calls Tryz.prog 59 #[v, .string s] w (RetOwn 3 intC 1 w (breaksF rs s)) := by
  obtain ⟨R, HRR⟩ : ∃ R, Hid (R = RetOwn 3 intC 1 w (breaksF rs s)) := ⟨_, rfl⟩
  rw [← HRR.out]
  obtain ⟨xs, hx0, hxl, hx⟩ := ht
  have hxa : xs.length ≤ rs.length := Nat.le_of_eq hxl
  have hxb : rs.length ≤ xs.length := Nat.le_of_eq hxl.symm
  clear hxl
  obtain ⟨Av, cv, rfl, hlc, _⟩ := hx0.shape
  by_cases h24 : 1024 < s.size
  · have h24i : (1024 : Int) < (s.size : Int) := by omega
    have e0 : breaksF rs s = [] := by unfold breaksF; rw [if_pos h24]
    go_enter Tryz.func59, Tryz.ntmps59
    go_wp2_with fail
    rw [HRR.out, e0]
    exact ⟨_, rfl, OwnE.nil, Below.refl _ _⟩
  have h24i : ¬ (1024 : Int) < (s.size : Int) := by omega
  have HX := Lib.hid hx0
  have HXR := Lib.hid hx
  clear hx0 hx
  have hu := Tryz.underlying110
  have hi : (Tryz.prog.info? 110).map (·.size) = some 3 := by kernel_rfl
  have hmk := fun w => run_make_row' (P := Tryz.prog) 134 4 (.bool false) 1 Tryz.underlying134 bool_info rfl .i64 .i64 (s.size + 1) (by omega) (by omega) w
  rw [show ((s.size + 1 : Nat) : Int) = (s.size : Int) + 1 by omega] at hmk
  have HRV := Lib.hid (reversed_any s w (by omega))
  have hbks : (rvS s s.size).size = s.size := rv_size s
  have HBT : Hid (∀ j, j < s.size → bt (rvS s s.size) j = bt s (s.size - 1 - j)) := rv_bt s
  generalize rvS s s.size = bk at HRV hbks HBT
  go_enter Tryz.func59, Tryz.ntmps59
  go_upto_region 4 with (go_at_call 101; refine HRV.out.mono ?_; rintro e w1 ⟨rfl, hb1⟩)
  have HB1 := Lib.hid hb1
  have HD1 : Hid ((w1.alloc (.cells (madeCells #[.bool false] (s.size + 1)) 4)).rowIs w1.heap.size 4 (s.size + 1) (fun j => .bool (false))) := World.rowIs_made w1 (.bool false) (s.size + 1) 4
  have HB2 := Lib.hid (HB1.out.alloc HB1.out.size (.cells (madeCells #[.bool false] (s.size + 1)) 4))
  clear hb1 HRV
  go_upto_region 5 with fail
  have hz1 := HB1.out.size
  generalize w1.heap.size = D at HD1 hz1 ⊢
  generalize w1.alloc (.cells (madeCells #[.bool false] (s.size + 1)) 4) = w2 at HD1 HB2 ⊢
  have HK1 : Hid ((w2.alloc (.cells (madeCells #[.bool false] (s.size + 1)) 4)).rowIs w2.heap.size 4 (s.size + 1) (fun j => .bool (false))) := World.rowIs_made w2 (.bool false) (s.size + 1) 4
  have HB3 := Lib.hid (HB2.out.alloc HB2.out.size (.cells (madeCells #[.bool false] (s.size + 1)) 4))
  have HD2 := Lib.hid (HD1.out.of_block (w' := w2.alloc (.cells (madeCells #[.bool false] (s.size + 1)) 4)) (Below.heap_alloc w2 _ D HD1.out.lt))
  have hDK : D < w2.heap.size := HD1.out.lt
  go_upto_region 6 with fail
  clear HD1 HB2 HB1
  generalize w2.heap.size = K at HK1 hDK ⊢
  generalize w2.alloc (.cells (madeCells #[.bool false] (s.size + 1)) 4) = w3 at HK1 HD2 HB3 ⊢
  go_wp2_with fail
  obtain ⟨wo, HWO⟩ : ∃ wo, Hid (wo = w3) := ⟨w3, rfl⟩
  go_loopg [31] xs.length (fun gk kv wr => ∃ k : Nat, kv = .int .i64 k ∧ k ≤ xs.length ∧ Hid (wr.rowIs D 4 (s.size + 1) (fun j => .bool (decide (0 < j ∧ j < s.size) && foundF (rs.take k) s j))) ∧ Hid (wr.rowIs K 4 (s.size + 1) (fun j => .bool (decide (0 < j ∧ j < s.size) && decideF (rs.take k) s j))) ∧ Hid (Below w.heap.size w wr) ∧ xs.length - k ≤ gk)
  case atStart => exact ⟨0, rfl, by omega, HD2.out.congr (fun j _ => by rw [List.take_zero]; show _ = Value.bool (_ && false); rw [Bool.and_false]), HK1.out.congr (fun j _ => by rw [List.take_zero]; show _ = Value.bool (_ && false); rw [Bool.and_false]), HB3.out, by omega⟩
  case round =>
    clear HD2 HK1 HB3 HWO
    obtain ⟨k, rfl, hk, HD, HK, HB, hgk⟩ := hrel
    by_cases hkl : k < xs.length
    · have hki : (k : Int) < (xs.length : Int) := by omega
      have hk0 : (0 : Int) ≤ (k : Int) := by omega
      obtain ⟨bp, o, rfl, hbl, hcell⟩ := HX.out.cells (by omega)
      have hxk : xs[k]? = some xs[k] := List.getElem?_eq_getElem hkl
      have hrk : rs[k]? = some (rs[k]'(by omega)) := List.getElem?_eq_getElem (by omega)
      have hrg : wr.rangeAt bp (o + k * 3) (ruC xs[k]) := fun j v hj => by
        rw [Nat.add_assoc]
        exact (HB.out.cell (p := ⟨bp, o + (k * 3 + j), none⟩) hbl).trans (hcell k _ j v hxk hj)
      obtain ⟨hbr, hbf, haf⟩ := HXR.out k _ _ hxk hrk
      have HTK : Hid (rs.take (k + 1) = rs.take k ++ [rs[k]'(by omega)]) := List.take_succ_eq_append_getElem (by omega)
      have hrl : (rs[k]'(by omega)).bf.length ≤ 140737488355328 ∧ (rs[k]'(by omega)).af.length ≤ 140737488355 := by have := hal _ (List.getElem_mem (show k < rs.length by omega)); omega
      have HU1 := Lib.hid (hbf.below HB.out (Nat.le_refl _))
      have HT1 := Lib.hid (haf.below HB.out (Nat.le_refl _))
      clear hcell hxk hrk hbf haf
      generalize xs[k] = y at hrg hbr HU1 HT1
      generalize rs[k]'(by omega) = r at hbr HU1 HT1 HTK hrl
      obtain ⟨yb, ⟨uA, un, uc⟩, ⟨tA, tn, tc⟩⟩ := y
      obtain rfl : yb = r.br := hbr
      have hz := HB.out.size
      have hz2 := HB.out.size
      have hq1 : bp < wr.heap.size := Nat.lt_of_lt_of_le hbl hz2
      have HQ : Hid (((wr.alloc (.cells #[.bool false, .slice none 0 0, .slice none 0 0] 110)).setRow wr.heap.size (ruC ⟨r.br, ⟨uA, un, uc⟩, ⟨tA, tn, tc⟩⟩).toArray).heap[wr.heap.size]? = some (.cells (ruC ⟨r.br, ⟨uA, un, uc⟩, ⟨tA, tn, tc⟩⟩).toArray 110)) := setRow_heap _ _ _ _ _ _ (heap_alloc_new wr _)
      have HB4 : Hid (Below w.heap.size w ((wr.alloc (.cells #[.bool false, .slice none 0 0, .slice none 0 0] 110)).setRow wr.heap.size (ruC ⟨r.br, ⟨uA, un, uc⟩, ⟨tA, tn, tc⟩⟩).toArray)) := below_setRow (HB.out.alloc hz _) hz _
      have HN4 : Hid (Below wr.heap.size wr ((wr.alloc (.cells #[.bool false, .slice none 0 0, .slice none 0 0] 110)).setRow wr.heap.size (ruC ⟨r.br, ⟨uA, un, uc⟩, ⟨tA, tn, tc⟩⟩).toArray)) := below_setRow ((Below.refl _ wr).alloc (Nat.le_refl _) _) (Nat.le_refl _) _
      go_upto_region 9 with (first
        | (refine wpList_load_mid rfl 110 (.tmp 33) rfl bp (o + k * 3) rfl (ruC ⟨r.br, ⟨uA, un, uc⟩, ⟨tA, tn, tc⟩⟩) _ hrg hu rfl (by rw [hi]; rfl) ?_)
        | (refine wpList_store_row rfl 110 (.tmp 9) (.tmp 34) rfl (wr.heap.size) (ruC ⟨r.br, ⟨uA, un, uc⟩, ⟨tA, tn, tc⟩⟩).toArray rfl rfl 110 _ (heap_alloc_new wr _) (by rw [hi]; rfl) rfl (ruC_oneA _) ?_))
      have HD4 := Lib.hid (HD.out.of_block (w' := (wr.alloc (.cells #[.bool false, .slice none 0 0, .slice none 0 0] 110)).setRow wr.heap.size (ruC ⟨r.br, ⟨uA, un, uc⟩, ⟨tA, tn, tc⟩⟩).toArray) (HN4.out.block _ HD.out.lt))
      have HK4 := Lib.hid (HK.out.of_block (w' := (wr.alloc (.cells #[.bool false, .slice none 0 0, .slice none 0 0] 110)).setRow wr.heap.size (ruC ⟨r.br, ⟨uA, un, uc⟩, ⟨tA, tn, tc⟩⟩).toArray) (HN4.out.block _ HK.out.lt))
      have HU4 := Lib.hid (HU1.out.below HN4.out (Nat.le_refl _))
      have HT4 := Lib.hid (HT1.out.below HN4.out (Nat.le_refl _))
      have hDq : D < wr.heap.size := HD.out.lt
      have hKq : K < wr.heap.size := HK.out.lt
      have hq4 : wr.heap.size < ((wr.alloc (.cells #[.bool false, .slice none 0 0, .slice none 0 0] 110)).setRow wr.heap.size (ruC ⟨r.br, ⟨uA, un, uc⟩, ⟨tA, tn, tc⟩⟩).toArray).heap.size := (Array.getElem?_eq_some_iff.1 HQ.out).1
      clear HD HK HB HN4 HU1 HT1 hrg hz hz2 hq1
      generalize wr.heap.size = q at HQ HB4 HD4 HK4 HU4 HT4 hDq hKq hq4 ⊢
      generalize (wr.alloc (.cells #[.bool false, .slice none 0 0, .slice none 0 0] 110)).setRow q (ruC ⟨r.br, ⟨uA, un, uc⟩, ⟨tA, tn, tc⟩⟩).toArray = wr4 at HQ HB4 HD4 HK4 HU4 HT4 hq4 ⊢
      change Hid (RdE atC 34 wr4 (.slice uA un uc) r.bf) at HU4
      change Hid (RdE atC 34 wr4 (.slice tA tn tc) r.af) at HT4
      have z0 : wr4.cell? ⟨q, 0, none⟩ = some (.bool r.br) := by rw [cell_of_row _ _ _ _ _ _ HQ.out]; rfl
      have z1 : wr4.cell? ⟨q, 1, none⟩ = some (.slice uA un uc) := by rw [cell_of_row _ _ _ _ _ _ HQ.out]; rfl
      have z2 : wr4.cell? ⟨q, 2, none⟩ = some (.slice tA tn tc) := by rw [cell_of_row _ _ _ _ _ _ HQ.out]; rfl
      have HL1 : Hid ((Instr.loadAt 108 (.pointer (some ⟨q, 1, none⟩))).run Tryz.prog wr4.drew = .ok (.slice uA un uc) wr4.drew) := ld_slice z1
      have HL2 : Hid ((Instr.loadAt 108 (.pointer (some ⟨q, 2, none⟩))).run Tryz.prog wr4.drew = .ok (.slice tA tn tc) wr4.drew) := ld_slice z2
      obtain ⟨hbl0, hal0⟩ := hrl
      refine wp_region_at 11 #[false, false, false, false, false, false, false, false, false, false, false] rfl rfl (by kernel_rfl) ?_
      refine wpAny_at (i := 0) (v := .pointer (some ⟨q, 1, none⟩)) (some 35) rfl rfl (by kernel_rfl) (by kernel_rfl) (by kernel_rfl) (fun _ _ _ h => h) (by kernel_rfl) (fun _ => ex_fieldAddr 110 _ 1 (.pointer (some ⟨q, 0, none⟩)) _ rfl (by kernel_rfl) (by go_simp)) ?_
      simp only [Act.put, List.setIfInBounds_toArray, List.set_cons_zero, List.set_cons_succ]
      refine wpAny_at (i := 2) (v := .string s) (some 37) rfl rfl (by kernel_rfl) (by kernel_rfl) (by kernel_rfl) (fun _ _ _ h => h) (by kernel_rfl) (fun _ => ex_move _ _ rfl (by kernel_rfl)) ?_
      simp only [Act.put, List.setIfInBounds_toArray, List.set_cons_zero, List.set_cons_succ]
      refine wpAny_at (i := 4) (v := .pointer (some ⟨q, 2, none⟩)) (some 39) rfl rfl (by kernel_rfl) (by kernel_rfl) (by kernel_rfl) (fun _ _ _ h => h) (by kernel_rfl) (fun _ => ex_fieldAddr 110 _ 2 (.pointer (some ⟨q, 0, none⟩)) _ rfl (by kernel_rfl) (by go_simp)) ?_
      simp only [Act.put, List.setIfInBounds_toArray, List.set_cons_zero, List.set_cons_succ]
      refine wpAny_at (i := 7) (v := .string bk) (some 42) rfl rfl (by kernel_rfl) (by kernel_rfl) (by kernel_rfl) (fun _ _ _ h => h) (by kernel_rfl) (fun _ => ex_move _ _ rfl (by kernel_rfl)) ?_
      simp only [Act.put, List.setIfInBounds_toArray, List.set_cons_zero, List.set_cons_succ]
      refine wpAny_vals 1 5 (some 36) (some 40) (.slice uA un uc) (.slice tA tn tc) (by kernel_rfl) rfl rfl rfl rfl (by kernel_rfl) (by kernel_rfl) (ex_load 108 _ (.pointer (some ⟨q, 1, none⟩)) _ rfl (by kernel_rfl) (HL1.out)) (ex_load 108 _ (.pointer (some ⟨q, 2, none⟩)) _ rfl (by kernel_rfl) (HL2.out)) ?_ ?_
      · simp only [Act.put, List.setIfInBounds_toArray, List.set_cons_zero, List.set_cons_succ]
        refine wpAny_callval 3 5 (some 38) (some 40) (.slice tA tn tc) (by kernel_rfl) rfl rfl rfl rfl (by kernel_rfl) (by kernel_rfl) 102 (#[.slice uA un uc, .string s]) (by go_simp) (ends_any r.bf s _ wr4.drew HU4.out (by omega) hbl0) (ex_load 108 _ (.pointer (some ⟨q, 2, none⟩)) _ rfl (by kernel_rfl) (HL2.out)) ?_ ?_
        · rintro e w5 ⟨g1, rfl, hg1, hr1, hb5⟩
          refine ⟨_, rfl, ?_⟩
          have HL3 : Hid (∀ w', w'.heap = w5.heap → (Instr.loadAt 108 (.pointer (some ⟨q, 2, none⟩))).run Tryz.prog w' = .ok (.slice tA tn tc) w') := fun w' hw' => ld_slice (by rw [World.cell?_of_block (w := w5) (by rw [hw'])]; exact (hb5.cell (p := ⟨q, 2, none⟩) hq4).trans z2)
          change wpAny _ _ _ _ _ _ (Act.put _ (some 38) _) _
          simp only [Act.put, List.setIfInBounds_toArray, List.set_cons_zero, List.set_cons_succ]
          refine wpAny_val 5 (some 40) (.slice tA tn tc) (by kernel_rfl) rfl rfl (by kernel_rfl) (ex_load 108 _ (.pointer (some ⟨q, 2, none⟩)) _ rfl (by kernel_rfl) (HL3.out _ rfl)) ?_
          simp only [Act.put, List.setIfInBounds_toArray, List.set_cons_zero, List.set_cons_succ]
          refine wpAny_call 6 (some 41) (by kernel_rfl) rfl rfl (by kernel_rfl) 103 (#[.slice tA tn tc]) (by go_simp) (revp_any r.af _ w5 ((show RdE atC 34 wr4.drew _ _ from HT4.out).below hb5 (Nat.le_refl _)) hal0) ?_
          rintro e w6 ⟨v6, rfl, hr6, hb6⟩
          refine ⟨_, rfl, ?_⟩
          change wpAny _ _ _ _ _ _ (Act.put _ (some 41) _) _
          simp only [Act.put, List.setIfInBounds_toArray, List.set_cons_zero, List.set_cons_succ]
          refine wpAny_call 8 (some 43) (by kernel_rfl) rfl rfl (by kernel_rfl) 102 (#[v6, .string bk]) (by go_simp) (ends_any r.af.reverse bk v6 w6 hr6 (by omega) (by simp; omega)) ?_
          rintro e w7 ⟨g2, rfl, hg2, hr2, hb7⟩
          refine ⟨_, rfl, ?_⟩
          rw [hbks]
          change wpAny _ _ _ _ _ _ (Act.put _ (some 43) _) _
          simp only [Act.put, List.setIfInBounds_toArray, List.set_cons_zero, List.set_cons_succ]
          refine wpAny_at (i := 9) (v := .slice (some ⟨g1, 0, none⟩) (s.size + 1) (s.size + 1)) (some 10) rfl rfl (by kernel_rfl) (by kernel_rfl) (by kernel_rfl) (fun _ _ _ h => h) (by kernel_rfl) (fun _ => ex_assign _ _ rfl (by kernel_rfl)) ?_
          simp only [Act.put, List.setIfInBounds_toArray, List.set_cons_zero, List.set_cons_succ]
          refine wpAny_at (i := 10) (v := .slice (some ⟨g2, 0, none⟩) (s.size + 1) (s.size + 1)) (some 11) rfl rfl (by kernel_rfl) (by kernel_rfl) (by kernel_rfl) (fun _ _ _ h => h) (by kernel_rfl) (fun _ => ex_assign _ _ rfl (by kernel_rfl)) ?_
          simp only [Act.put, List.setIfInBounds_toArray, List.set_cons_zero, List.set_cons_succ]
          refine wpAny_done (by kernel_rfl) ?_ _
          rw [hbks] at hr2
          have HG1 : Hid (w7.rowIs g1 4 (s.size + 1) (fun j => .bool (reachF s r.bf allF j))) := (hr1.of_block (hb6.block _ hr1.lt)).of_block (hb7.block _ (hr1.of_block (hb6.block _ hr1.lt)).lt)
          have HG2 : Hid (w7.rowIs g2 4 (s.size + 1) (fun j => .bool (reachF bk r.af.reverse allF j))) := hr2
          have HBq : Hid (Below wr4.heap.size wr4 w7) := ((below_drewN (Below.refl _ wr4) 1).trans hb5).trans ((hb6.trans (hb7.mono hb6.size)).mono hb5.size)
          have HD7 := Lib.hid (HD4.out.of_block (HBq.out.block _ HD4.out.lt))
          have HK7 := Lib.hid (HK4.out.of_block (HBq.out.block _ HK4.out.lt))
          have HB7 := Lib.hid (HB4.out.trans (HBq.out.mono HB4.out.size))
          have z0w := (HBq.out.cell (p := ⟨q, 0, none⟩) hq4).trans z0
          have hg1q : q < g1 := Nat.lt_of_lt_of_le hq4 hg1
          have hg2q : q < g2 := Nat.lt_of_lt_of_le hq4 (Nat.le_trans (Nat.le_trans hb5.size hb6.size) hg2)
          clear hr1 hr2 hb5 hb6 hb7 HL3 hr6 HBq z0 z1 z2 HL1 HL2 HD4 HK4 HB4 HU4 HT4 HQ hq4
          go_wp2_with fail
          obtain ⟨wo2, HWO2⟩ : ∃ wo, Hid (wo = w7) := ⟨w7, rfl⟩
          go_loopg [12] (s.size + 1) (fun gk iv wr => ∃ i : Nat, iv = .int .i64 i ∧ 1 ≤ i ∧ i ≤ s.size + 1 ∧ Hid (wr.rowIs D 4 (s.size + 1) (fun j => .bool (if j < i then decide (0 < j ∧ j < s.size) && foundF (rs.take (k + 1)) s j else decide (0 < j ∧ j < s.size) && foundF (rs.take k) s j))) ∧ Hid (wr.rowIs K 4 (s.size + 1) (fun j => .bool (if j < i then decide (0 < j ∧ j < s.size) && decideF (rs.take (k + 1)) s j else decide (0 < j ∧ j < s.size) && decideF (rs.take k) s j))) ∧ Hid (wr.rowIs g1 4 (s.size + 1) (fun j => .bool (reachF s r.bf allF j))) ∧ Hid (wr.rowIs g2 4 (s.size + 1) (fun j => .bool (reachF bk r.af.reverse allF j))) ∧ wr.cell? ⟨q, 0, none⟩ = some (.bool r.br) ∧ Hid (Below w.heap.size w wr) ∧ s.size + 1 - i ≤ gk)
          case atStart => exact ⟨1, rfl, Nat.le_refl _, by omega, HD7.out.congr (fun j _ => by
              by_cases h : j < 1
              · rw [if_pos h, show j = 0 by omega]; rfl
              · rw [if_neg h]), HK7.out.congr (fun j _ => by
              by_cases h : j < 1
              · rw [if_pos h, show j = 0 by omega]; rfl
              · rw [if_neg h]), HG1.out, HG2.out, z0w, HB7.out, by omega⟩
          case round =>
            clear HD7 HK7 HG1 HG2 z0w HB7 HWO2
            obtain ⟨i, rfl, hi1, hi2, HDi, HKi, HG1i, HG2i, z0i, HBi, hgki⟩ := hrel
            by_cases hil : i < s.size
            · have hii : (i : Int) < (s.size : Int) := by omega
              have hi0 : (0 : Int) ≤ (i : Int) := by omega
              have hi3 : (i : Int) < (s.size : Int) + 1 := by omega
              obtain ⟨t, ht⟩ : ∃ t, t + i = s.size := ⟨s.size - i, by omega⟩
              have hsub : (s.size : Int) - (i : Int) = (t : Int) := by omega
              have ht0 : (0 : Int) ≤ (t : Int) := by omega
              have ht1 : (t : Int) < (s.size : Int) + 1 := by omega
              have qd := HDi.out.cell (i := i) (by omega)
              rw [if_neg (Nat.lt_irrefl i), decide_eq_true ⟨hi1, hil⟩, Bool.true_and] at qd
              have qk := HKi.out.cell (i := i) (by omega)
              have qb := HG1i.out.cell (i := i) (by omega)
              rw [ends_suf r.bf s i (by omega)] at qb
              have qa := HG2i.out.cell (i := t) (by omega)
              rw [show t = s.size - i by omega, ends_pre r.af hbks HBT.out i (by omega), show s.size - i = t by omega] at qa
              have hnd : foundF (rs.take (k + 1)) s i = (foundF (rs.take k) s i || (suffixF r.bf (s.extract 0 i) && prefixF r.af (s.extract i s.size))) := by rw [HTK.out, found_snoc]; rfl
              have hnk : decideF (rs.take (k + 1)) s i = if foundF (rs.take k) s i = true then decideF (rs.take k) s i else ((suffixF r.bf (s.extract 0 i) && prefixF r.af (s.extract i s.size)) && r.br) := by rw [HTK.out, decide_snoc]; rfl
              have hno := decide_none (rs.take k) s i
              cases hfd : foundF (rs.take k) s i with
              | true =>
                rw [hfd] at qd
                have hnew1 : (decide (0 < i ∧ i < s.size) && foundF (rs.take (k + 1)) s i) = (decide (0 < i ∧ i < s.size) && foundF (rs.take k) s i) := by rw [hnd, hfd]; rfl
                have hnew2 : (decide (0 < i ∧ i < s.size) && decideF (rs.take (k + 1)) s i) = (decide (0 < i ∧ i < s.size) && decideF (rs.take k) s i) := by rw [hnk, if_pos hfd]
                clear hnd hnk hno
                have HDN : Hid (wr.rowIs D 4 (s.size + 1) (fun j => .bool (if j < i + 1 then decide (0 < j ∧ j < s.size) && foundF (rs.take (k + 1)) s j else decide (0 < j ∧ j < s.size) && foundF (rs.take k) s j))) := HDi.out.congr fun j hj => by
                  by_cases h : j = i
                  · rw [if_neg (by omega), if_pos (by omega), h, hnew1]
                  · by_cases h2 : j < i
                    · rw [if_pos h2, if_pos (by omega)]
                    · rw [if_neg h2, if_neg (by omega)]
                have HKN : Hid (wr.rowIs K 4 (s.size + 1) (fun j => .bool (if j < i + 1 then decide (0 < j ∧ j < s.size) && decideF (rs.take (k + 1)) s j else decide (0 < j ∧ j < s.size) && decideF (rs.take k) s j))) := HKi.out.congr fun j hj => by
                  by_cases h : j = i
                  · rw [if_neg (by omega), if_pos (by omega), h, hnew2]
                  · by_cases h2 : j < i
                    · rw [if_pos h2, if_pos (by omega)]
                    · rw [if_neg h2, if_neg (by omega)]
                clear hnew1 hnew2
                go_wp2_with fail
                go_roundg (s.size + 1 - (i + 1))
                case measure => omega
                case rel => exact ⟨i + 1, by go_num, by omega, by omega, HDN.out, HKN.out, HG1i.out, HG2i.out, z0i, HBi.out, Nat.le_refl _⟩
              | false =>
                rw [hfd] at qd
                cases hsb : suffixF r.bf (s.extract 0 i) with
                | false =>
                  rw [hsb] at qb
                  have hnew1 : (decide (0 < i ∧ i < s.size) && foundF (rs.take (k + 1)) s i) = (decide (0 < i ∧ i < s.size) && foundF (rs.take k) s i) := by rw [hnd, hfd, hsb]; rfl
                  have hnew2 : (decide (0 < i ∧ i < s.size) && decideF (rs.take (k + 1)) s i) = (decide (0 < i ∧ i < s.size) && decideF (rs.take k) s i) := by rw [hnk, if_neg (by rw [hfd]; exact Bool.false_ne_true), hsb, hno hfd]; rfl
                  clear hnd hnk hno
                  have HDN : Hid (wr.rowIs D 4 (s.size + 1) (fun j => .bool (if j < i + 1 then decide (0 < j ∧ j < s.size) && foundF (rs.take (k + 1)) s j else decide (0 < j ∧ j < s.size) && foundF (rs.take k) s j))) := HDi.out.congr fun j hj => by
                    by_cases h : j = i
                    · rw [if_neg (by omega), if_pos (by omega), h, hnew1]
                    · by_cases h2 : j < i
                      · rw [if_pos h2, if_pos (by omega)]
                      · rw [if_neg h2, if_neg (by omega)]
                  have HKN : Hid (wr.rowIs K 4 (s.size + 1) (fun j => .bool (if j < i + 1 then decide (0 < j ∧ j < s.size) && decideF (rs.take (k + 1)) s j else decide (0 < j ∧ j < s.size) && decideF (rs.take k) s j))) := HKi.out.congr fun j hj => by
                    by_cases h : j = i
                    · rw [if_neg (by omega), if_pos (by omega), h, hnew2]
                    · by_cases h2 : j < i
                      · rw [if_pos h2, if_pos (by omega)]
                      · rw [if_neg h2, if_neg (by omega)]
                  clear hnew1 hnew2
                  go_wp2_with fail
                  go_roundg (s.size + 1 - (i + 1))
                  case measure => omega
                  case rel => exact ⟨i + 1, by go_num, by omega, by omega, HDN.out, HKN.out, HG1i.out, HG2i.out, z0i, HBi.out, Nat.le_refl _⟩
                | true =>
                  rw [hsb] at qb
                  cases hpa : prefixF r.af (s.extract i s.size) with
                  | false =>
                    rw [hpa] at qa
                    have hnew1 : (decide (0 < i ∧ i < s.size) && foundF (rs.take (k + 1)) s i) = (decide (0 < i ∧ i < s.size) && foundF (rs.take k) s i) := by rw [hnd, hfd, hsb, hpa]; rfl
                    have hnew2 : (decide (0 < i ∧ i < s.size) && decideF (rs.take (k + 1)) s i) = (decide (0 < i ∧ i < s.size) && decideF (rs.take k) s i) := by rw [hnk, if_neg (by rw [hfd]; exact Bool.false_ne_true), hsb, hpa, hno hfd]; rfl
                    clear hnd hnk hno
                    have HDN : Hid (wr.rowIs D 4 (s.size + 1) (fun j => .bool (if j < i + 1 then decide (0 < j ∧ j < s.size) && foundF (rs.take (k + 1)) s j else decide (0 < j ∧ j < s.size) && foundF (rs.take k) s j))) := HDi.out.congr fun j hj => by
                      by_cases h : j = i
                      · rw [if_neg (by omega), if_pos (by omega), h, hnew1]
                      · by_cases h2 : j < i
                        · rw [if_pos h2, if_pos (by omega)]
                        · rw [if_neg h2, if_neg (by omega)]
                    have HKN : Hid (wr.rowIs K 4 (s.size + 1) (fun j => .bool (if j < i + 1 then decide (0 < j ∧ j < s.size) && decideF (rs.take (k + 1)) s j else decide (0 < j ∧ j < s.size) && decideF (rs.take k) s j))) := HKi.out.congr fun j hj => by
                      by_cases h : j = i
                      · rw [if_neg (by omega), if_pos (by omega), h, hnew2]
                      · by_cases h2 : j < i
                        · rw [if_pos h2, if_pos (by omega)]
                        · rw [if_neg h2, if_neg (by omega)]
                    clear hnew1 hnew2
                    go_wp2_with fail
                    go_roundg (s.size + 1 - (i + 1))
                    case measure => omega
                    case rel => exact ⟨i + 1, by go_num, by omega, by omega, HDN.out, HKN.out, HG1i.out, HG2i.out, z0i, HBi.out, Nat.le_refl _⟩
                  | true =>
                    rw [hpa] at qa
                    have hnew1 : foundF (rs.take (k + 1)) s i = true := by rw [hnd, hfd, hsb, hpa]; rfl
                    have hnew2 : decideF (rs.take (k + 1)) s i = r.br := by rw [hnk, if_neg (by rw [hfd]; exact Bool.false_ne_true), hsb, hpa]; rfl
                    clear hnd hnk hno
                    have fd := HDi.out.frozen i
                    have fk := HKi.out.frozen i
                    have hne : ¬ D = K := by omega
                    have hne2 : ¬ K = D := by omega
                    have HD8 : Hid (((wr.drew.setCell ⟨D, i, none⟩ (.bool true)).setCell ⟨K, i, none⟩ (.bool r.br)).rowIs D 4 (s.size + 1) (fun j => .bool (if j < i + 1 then decide (0 < j ∧ j < s.size) && foundF (rs.take (k + 1)) s j else decide (0 < j ∧ j < s.size) && foundF (rs.take k) s j))) := ((HDi.out.drew.set i (.bool true)).of_block (Below.heap_setCell _ _ _ _ (show D ≠ K by omega))).congr fun j hj => by
                      by_cases h : j = i
                      · rw [if_pos h, if_pos (by omega), h, hnew1, decide_eq_true ⟨hi1, hil⟩]; rfl
                      · rw [if_neg h]
                        by_cases h2 : j < i
                        · rw [if_pos h2, if_pos (by omega)]
                        · rw [if_neg h2, if_neg (by omega)]
                    have HK8 : Hid (((wr.drew.setCell ⟨D, i, none⟩ (.bool true)).setCell ⟨K, i, none⟩ (.bool r.br)).rowIs K 4 (s.size + 1) (fun j => .bool (if j < i + 1 then decide (0 < j ∧ j < s.size) && decideF (rs.take (k + 1)) s j else decide (0 < j ∧ j < s.size) && decideF (rs.take k) s j))) := ((HKi.out.drew.of_block (Below.heap_setCell _ _ _ _ (show K ≠ D by omega))).set i (.bool r.br)).congr fun j hj => by
                      by_cases h : j = i
                      · rw [if_pos h, if_pos (by omega), h, hnew2, decide_eq_true ⟨hi1, hil⟩]; rfl
                      · rw [if_neg h]
                        by_cases h2 : j < i
                        · rw [if_pos h2, if_pos (by omega)]
                        · rw [if_neg h2, if_neg (by omega)]
                    have HG18 : Hid (((wr.drew.setCell ⟨D, i, none⟩ (.bool true)).setCell ⟨K, i, none⟩ (.bool r.br)).rowIs g1 4 (s.size + 1) (fun j => .bool (reachF s r.bf allF j))) := (HG1i.out.drew.of_block (Below.heap_setCell _ _ _ _ (show g1 ≠ D by omega))).of_block (Below.heap_setCell _ _ _ _ (show g1 ≠ K by omega))
                    have HG28 : Hid (((wr.drew.setCell ⟨D, i, none⟩ (.bool true)).setCell ⟨K, i, none⟩ (.bool r.br)).rowIs g2 4 (s.size + 1) (fun j => .bool (reachF bk r.af.reverse allF j))) := (HG2i.out.drew.of_block (Below.heap_setCell _ _ _ _ (show g2 ≠ D by omega))).of_block (Below.heap_setCell _ _ _ _ (show g2 ≠ K by omega))
                    have HZ8 : Hid (((wr.drew.setCell ⟨D, i, none⟩ (.bool true)).setCell ⟨K, i, none⟩ (.bool r.br)).cell? ⟨q, 0, none⟩ = some (.bool r.br)) := by
                      show _ = _
                      rw [World.cell?_of_block (w := wr.drew.setCell ⟨D, i, none⟩ (.bool true)) (Below.heap_setCell _ _ _ _ (show q ≠ K by omega)), World.cell?_of_block (w := wr.drew) (Below.heap_setCell _ _ _ _ (show q ≠ D by omega))]
                      exact z0i
                    have HB8 : Hid (Below w.heap.size w ((wr.drew.setCell ⟨D, i, none⟩ (.bool true)).setCell ⟨K, i, none⟩ (.bool r.br))) := (HBi.out.drew.setCell (p := ⟨D, i, none⟩) (show w.heap.size ≤ D by omega) _).setCell (p := ⟨K, i, none⟩) (show w.heap.size ≤ K by omega) _
                    go_upto_region 14 with fail
                    go_region
                    go_wp2_with fail
                    go_roundg (s.size + 1 - (i + 1))
                    case measure => omega
                    case rel => exact ⟨i + 1, by go_num, by omega, by omega, HD8.out, HK8.out, HG18.out, HG28.out, HZ8.out, HB8.out, Nat.le_refl _⟩
            · have hge : s.size ≤ i := by omega
              have hii : ¬ (i : Int) < (s.size : Int) := by omega
              have HDE : Hid (wr.rowIs D 4 (s.size + 1) (fun j => .bool (decide (0 < j ∧ j < s.size) && foundF (rs.take (k + 1)) s j))) := HDi.out.congr fun j hj => by
                by_cases h : j < i
                · rw [if_pos h]
                · rw [if_neg h, decide_eq_false (by omega)]; rfl
              have HKE : Hid (wr.rowIs K 4 (s.size + 1) (fun j => .bool (decide (0 < j ∧ j < s.size) && decideF (rs.take (k + 1)) s j))) := HKi.out.congr fun j hj => by
                by_cases h : j < i
                · rw [if_pos h]
                · rw [if_neg h, decide_eq_false (by omega)]; rfl
              go_wp2_with fail
              go_roundg (xs.length - (k + 1))
              case measure => omega
              case rel => exact ⟨k + 1, by go_num, by omega, HDE.out, HKE.out, HBi.out, Nat.le_refl _⟩
        · simp only [Act.put, List.setIfInBounds_toArray, List.set_cons_zero, List.set_cons_succ]
          refine wpAny_call 3 (some 38) (by kernel_rfl) rfl rfl (by kernel_rfl) 102 (#[.slice uA un uc, .string s]) (by go_simp) (ends_any r.bf s _ wr4.drew HU4.out (by omega) hbl0) ?_
          rintro e w5 ⟨g1, rfl, hg1, hr1, hb5⟩
          refine ⟨_, rfl, ?_⟩
          have HL3 : Hid (∀ w', w'.heap = w5.heap → (Instr.loadAt 108 (.pointer (some ⟨q, 2, none⟩))).run Tryz.prog w' = .ok (.slice tA tn tc) w') := fun w' hw' => ld_slice (by rw [World.cell?_of_block (w := w5) (by rw [hw'])]; exact (hb5.cell (p := ⟨q, 2, none⟩) hq4).trans z2)
          change wpAny _ _ _ _ _ _ (Act.put _ (some 38) _) _
          simp only [Act.put, List.setIfInBounds_toArray, List.set_cons_zero, List.set_cons_succ]
          refine wpAny_call 6 (some 41) (by kernel_rfl) rfl rfl (by kernel_rfl) 103 (#[.slice tA tn tc]) (by go_simp) (revp_any r.af _ w5 ((show RdE atC 34 wr4.drew _ _ from HT4.out).below hb5 (Nat.le_refl _)) hal0) ?_
          rintro e w6 ⟨v6, rfl, hr6, hb6⟩
          refine ⟨_, rfl, ?_⟩
          change wpAny _ _ _ _ _ _ (Act.put _ (some 41) _) _
          simp only [Act.put, List.setIfInBounds_toArray, List.set_cons_zero, List.set_cons_succ]
          refine wpAny_call 8 (some 43) (by kernel_rfl) rfl rfl (by kernel_rfl) 102 (#[v6, .string bk]) (by go_simp) (ends_any r.af.reverse bk v6 w6 hr6 (by omega) (by simp; omega)) ?_
          rintro e w7 ⟨g2, rfl, hg2, hr2, hb7⟩
          refine ⟨_, rfl, ?_⟩
          rw [hbks]
          change wpAny _ _ _ _ _ _ (Act.put _ (some 43) _) _
          simp only [Act.put, List.setIfInBounds_toArray, List.set_cons_zero, List.set_cons_succ]
          refine wpAny_at (i := 9) (v := .slice (some ⟨g1, 0, none⟩) (s.size + 1) (s.size + 1)) (some 10) rfl rfl (by kernel_rfl) (by kernel_rfl) (by kernel_rfl) (fun _ _ _ h => h) (by kernel_rfl) (fun _ => ex_assign _ _ rfl (by kernel_rfl)) ?_
          simp only [Act.put, List.setIfInBounds_toArray, List.set_cons_zero, List.set_cons_succ]
          refine wpAny_at (i := 10) (v := .slice (some ⟨g2, 0, none⟩) (s.size + 1) (s.size + 1)) (some 11) rfl rfl (by kernel_rfl) (by kernel_rfl) (by kernel_rfl) (fun _ _ _ h => h) (by kernel_rfl) (fun _ => ex_assign _ _ rfl (by kernel_rfl)) ?_
          simp only [Act.put, List.setIfInBounds_toArray, List.set_cons_zero, List.set_cons_succ]
          refine wpAny_done (by kernel_rfl) ?_ _
          rw [hbks] at hr2
          have HG1 : Hid (w7.rowIs g1 4 (s.size + 1) (fun j => .bool (reachF s r.bf allF j))) := (hr1.of_block (hb6.block _ hr1.lt)).of_block (hb7.block _ (hr1.of_block (hb6.block _ hr1.lt)).lt)
          have HG2 : Hid (w7.rowIs g2 4 (s.size + 1) (fun j => .bool (reachF bk r.af.reverse allF j))) := hr2
          have HBq : Hid (Below wr4.heap.size wr4 w7) := ((below_drewN (Below.refl _ wr4) 1).trans hb5).trans ((hb6.trans (hb7.mono hb6.size)).mono hb5.size)
          have HD7 := Lib.hid (HD4.out.of_block (HBq.out.block _ HD4.out.lt))
          have HK7 := Lib.hid (HK4.out.of_block (HBq.out.block _ HK4.out.lt))
          have HB7 := Lib.hid (HB4.out.trans (HBq.out.mono HB4.out.size))
          have z0w := (HBq.out.cell (p := ⟨q, 0, none⟩) hq4).trans z0
          have hg1q : q < g1 := Nat.lt_of_lt_of_le hq4 hg1
          have hg2q : q < g2 := Nat.lt_of_lt_of_le hq4 (Nat.le_trans (Nat.le_trans hb5.size hb6.size) hg2)
          clear hr1 hr2 hb5 hb6 hb7 HL3 hr6 HBq z0 z1 z2 HL1 HL2 HD4 HK4 HB4 HU4 HT4 HQ hq4
          go_wp2_with fail
          obtain ⟨wo2, HWO2⟩ : ∃ wo, Hid (wo = w7) := ⟨w7, rfl⟩
          go_loopg [12] (s.size + 1) (fun gk iv wr => ∃ i : Nat, iv = .int .i64 i ∧ 1 ≤ i ∧ i ≤ s.size + 1 ∧ Hid (wr.rowIs D 4 (s.size + 1) (fun j => .bool (if j < i then decide (0 < j ∧ j < s.size) && foundF (rs.take (k + 1)) s j else decide (0 < j ∧ j < s.size) && foundF (rs.take k) s j))) ∧ Hid (wr.rowIs K 4 (s.size + 1) (fun j => .bool (if j < i then decide (0 < j ∧ j < s.size) && decideF (rs.take (k + 1)) s j else decide (0 < j ∧ j < s.size) && decideF (rs.take k) s j))) ∧ Hid (wr.rowIs g1 4 (s.size + 1) (fun j => .bool (reachF s r.bf allF j))) ∧ Hid (wr.rowIs g2 4 (s.size + 1) (fun j => .bool (reachF bk r.af.reverse allF j))) ∧ wr.cell? ⟨q, 0, none⟩ = some (.bool r.br) ∧ Hid (Below w.heap.size w wr) ∧ s.size + 1 - i ≤ gk)
          case atStart => exact ⟨1, rfl, Nat.le_refl _, by omega, HD7.out.congr (fun j _ => by
              by_cases h : j < 1
              · rw [if_pos h, show j = 0 by omega]; rfl
              · rw [if_neg h]), HK7.out.congr (fun j _ => by
              by_cases h : j < 1
              · rw [if_pos h, show j = 0 by omega]; rfl
              · rw [if_neg h]), HG1.out, HG2.out, z0w, HB7.out, by omega⟩
          case round =>
            clear HD7 HK7 HG1 HG2 z0w HB7 HWO2
            obtain ⟨i, rfl, hi1, hi2, HDi, HKi, HG1i, HG2i, z0i, HBi, hgki⟩ := hrel
            by_cases hil : i < s.size
            · have hii : (i : Int) < (s.size : Int) := by omega
              have hi0 : (0 : Int) ≤ (i : Int) := by omega
              have hi3 : (i : Int) < (s.size : Int) + 1 := by omega
              obtain ⟨t, ht⟩ : ∃ t, t + i = s.size := ⟨s.size - i, by omega⟩
              have hsub : (s.size : Int) - (i : Int) = (t : Int) := by omega
              have ht0 : (0 : Int) ≤ (t : Int) := by omega
              have ht1 : (t : Int) < (s.size : Int) + 1 := by omega
              have qd := HDi.out.cell (i := i) (by omega)
              rw [if_neg (Nat.lt_irrefl i), decide_eq_true ⟨hi1, hil⟩, Bool.true_and] at qd
              have qk := HKi.out.cell (i := i) (by omega)
              have qb := HG1i.out.cell (i := i) (by omega)
              rw [ends_suf r.bf s i (by omega)] at qb
              have qa := HG2i.out.cell (i := t) (by omega)
              rw [show t = s.size - i by omega, ends_pre r.af hbks HBT.out i (by omega), show s.size - i = t by omega] at qa
              have hnd : foundF (rs.take (k + 1)) s i = (foundF (rs.take k) s i || (suffixF r.bf (s.extract 0 i) && prefixF r.af (s.extract i s.size))) := by rw [HTK.out, found_snoc]; rfl
              have hnk : decideF (rs.take (k + 1)) s i = if foundF (rs.take k) s i = true then decideF (rs.take k) s i else ((suffixF r.bf (s.extract 0 i) && prefixF r.af (s.extract i s.size)) && r.br) := by rw [HTK.out, decide_snoc]; rfl
              have hno := decide_none (rs.take k) s i
              cases hfd : foundF (rs.take k) s i with
              | true =>
                rw [hfd] at qd
                have hnew1 : (decide (0 < i ∧ i < s.size) && foundF (rs.take (k + 1)) s i) = (decide (0 < i ∧ i < s.size) && foundF (rs.take k) s i) := by rw [hnd, hfd]; rfl
                have hnew2 : (decide (0 < i ∧ i < s.size) && decideF (rs.take (k + 1)) s i) = (decide (0 < i ∧ i < s.size) && decideF (rs.take k) s i) := by rw [hnk, if_pos hfd]
                clear hnd hnk hno
                have HDN : Hid (wr.rowIs D 4 (s.size + 1) (fun j => .bool (if j < i + 1 then decide (0 < j ∧ j < s.size) && foundF (rs.take (k + 1)) s j else decide (0 < j ∧ j < s.size) && foundF (rs.take k) s j))) := HDi.out.congr fun j hj => by
                  by_cases h : j = i
                  · rw [if_neg (by omega), if_pos (by omega), h, hnew1]
                  · by_cases h2 : j < i
                    · rw [if_pos h2, if_pos (by omega)]
                    · rw [if_neg h2, if_neg (by omega)]
                have HKN : Hid (wr.rowIs K 4 (s.size + 1) (fun j => .bool (if j < i + 1 then decide (0 < j ∧ j < s.size) && decideF (rs.take (k + 1)) s j else decide (0 < j ∧ j < s.size) && decideF (rs.take k) s j))) := HKi.out.congr fun j hj => by
                  by_cases h : j = i
                  · rw [if_neg (by omega), if_pos (by omega), h, hnew2]
                  · by_cases h2 : j < i
                    · rw [if_pos h2, if_pos (by omega)]
                    · rw [if_neg h2, if_neg (by omega)]
                clear hnew1 hnew2
                go_wp2_with fail
                go_roundg (s.size + 1 - (i + 1))
                case measure => omega
                case rel => exact ⟨i + 1, by go_num, by omega, by omega, HDN.out, HKN.out, HG1i.out, HG2i.out, z0i, HBi.out, Nat.le_refl _⟩
              | false =>
                rw [hfd] at qd
                cases hsb : suffixF r.bf (s.extract 0 i) with
                | false =>
                  rw [hsb] at qb
                  have hnew1 : (decide (0 < i ∧ i < s.size) && foundF (rs.take (k + 1)) s i) = (decide (0 < i ∧ i < s.size) && foundF (rs.take k) s i) := by rw [hnd, hfd, hsb]; rfl
                  have hnew2 : (decide (0 < i ∧ i < s.size) && decideF (rs.take (k + 1)) s i) = (decide (0 < i ∧ i < s.size) && decideF (rs.take k) s i) := by rw [hnk, if_neg (by rw [hfd]; exact Bool.false_ne_true), hsb, hno hfd]; rfl
                  clear hnd hnk hno
                  have HDN : Hid (wr.rowIs D 4 (s.size + 1) (fun j => .bool (if j < i + 1 then decide (0 < j ∧ j < s.size) && foundF (rs.take (k + 1)) s j else decide (0 < j ∧ j < s.size) && foundF (rs.take k) s j))) := HDi.out.congr fun j hj => by
                    by_cases h : j = i
                    · rw [if_neg (by omega), if_pos (by omega), h, hnew1]
                    · by_cases h2 : j < i
                      · rw [if_pos h2, if_pos (by omega)]
                      · rw [if_neg h2, if_neg (by omega)]
                  have HKN : Hid (wr.rowIs K 4 (s.size + 1) (fun j => .bool (if j < i + 1 then decide (0 < j ∧ j < s.size) && decideF (rs.take (k + 1)) s j else decide (0 < j ∧ j < s.size) && decideF (rs.take k) s j))) := HKi.out.congr fun j hj => by
                    by_cases h : j = i
                    · rw [if_neg (by omega), if_pos (by omega), h, hnew2]
                    · by_cases h2 : j < i
                      · rw [if_pos h2, if_pos (by omega)]
                      · rw [if_neg h2, if_neg (by omega)]
                  clear hnew1 hnew2
                  go_wp2_with fail
                  go_roundg (s.size + 1 - (i + 1))
                  case measure => omega
                  case rel => exact ⟨i + 1, by go_num, by omega, by omega, HDN.out, HKN.out, HG1i.out, HG2i.out, z0i, HBi.out, Nat.le_refl _⟩
                | true =>
                  rw [hsb] at qb
                  cases hpa : prefixF r.af (s.extract i s.size) with
                  | false =>
                    rw [hpa] at qa
                    have hnew1 : (decide (0 < i ∧ i < s.size) && foundF (rs.take (k + 1)) s i) = (decide (0 < i ∧ i < s.size) && foundF (rs.take k) s i) := by rw [hnd, hfd, hsb, hpa]; rfl
                    have hnew2 : (decide (0 < i ∧ i < s.size) && decideF (rs.take (k + 1)) s i) = (decide (0 < i ∧ i < s.size) && decideF (rs.take k) s i) := by rw [hnk, if_neg (by rw [hfd]; exact Bool.false_ne_true), hsb, hpa, hno hfd]; rfl
                    clear hnd hnk hno
                    have HDN : Hid (wr.rowIs D 4 (s.size + 1) (fun j => .bool (if j < i + 1 then decide (0 < j ∧ j < s.size) && foundF (rs.take (k + 1)) s j else decide (0 < j ∧ j < s.size) && foundF (rs.take k) s j))) := HDi.out.congr fun j hj => by
                      by_cases h : j = i
                      · rw [if_neg (by omega), if_pos (by omega), h, hnew1]
                      · by_cases h2 : j < i
                        · rw [if_pos h2, if_pos (by omega)]
                        · rw [if_neg h2, if_neg (by omega)]
                    have HKN : Hid (wr.rowIs K 4 (s.size + 1) (fun j => .bool (if j < i + 1 then decide (0 < j ∧ j < s.size) && decideF (rs.take (k + 1)) s j else decide (0 < j ∧ j < s.size) && decideF (rs.take k) s j))) := HKi.out.congr fun j hj => by
                      by_cases h : j = i
                      · rw [if_neg (by omega), if_pos (by omega), h, hnew2]
                      · by_cases h2 : j < i
                        · rw [if_pos h2, if_pos (by omega)]
                        · rw [if_neg h2, if_neg (by omega)]
                    clear hnew1 hnew2
                    go_wp2_with fail
                    go_roundg (s.size + 1 - (i + 1))
                    case measure => omega
                    case rel => exact ⟨i + 1, by go_num, by omega, by omega, HDN.out, HKN.out, HG1i.out, HG2i.out, z0i, HBi.out, Nat.le_refl _⟩
                  | true =>
                    rw [hpa] at qa
                    have hnew1 : foundF (rs.take (k + 1)) s i = true := by rw [hnd, hfd, hsb, hpa]; rfl
                    have hnew2 : decideF (rs.take (k + 1)) s i = r.br := by rw [hnk, if_neg (by rw [hfd]; exact Bool.false_ne_true), hsb, hpa]; rfl
                    clear hnd hnk hno
                    have fd := HDi.out.frozen i
                    have fk := HKi.out.frozen i
                    have hne : ¬ D = K := by omega
                    have hne2 : ¬ K = D := by omega
                    have HD8 : Hid (((wr.drew.setCell ⟨D, i, none⟩ (.bool true)).setCell ⟨K, i, none⟩ (.bool r.br)).rowIs D 4 (s.size + 1) (fun j => .bool (if j < i + 1 then decide (0 < j ∧ j < s.size) && foundF (rs.take (k + 1)) s j else decide (0 < j ∧ j < s.size) && foundF (rs.take k) s j))) := ((HDi.out.drew.set i (.bool true)).of_block (Below.heap_setCell _ _ _ _ (show D ≠ K by omega))).congr fun j hj => by
                      by_cases h : j = i
                      · rw [if_pos h, if_pos (by omega), h, hnew1, decide_eq_true ⟨hi1, hil⟩]; rfl
                      · rw [if_neg h]
                        by_cases h2 : j < i
                        · rw [if_pos h2, if_pos (by omega)]
                        · rw [if_neg h2, if_neg (by omega)]
                    have HK8 : Hid (((wr.drew.setCell ⟨D, i, none⟩ (.bool true)).setCell ⟨K, i, none⟩ (.bool r.br)).rowIs K 4 (s.size + 1) (fun j => .bool (if j < i + 1 then decide (0 < j ∧ j < s.size) && decideF (rs.take (k + 1)) s j else decide (0 < j ∧ j < s.size) && decideF (rs.take k) s j))) := ((HKi.out.drew.of_block (Below.heap_setCell _ _ _ _ (show K ≠ D by omega))).set i (.bool r.br)).congr fun j hj => by
                      by_cases h : j = i
                      · rw [if_pos h, if_pos (by omega), h, hnew2, decide_eq_true ⟨hi1, hil⟩]; rfl
                      · rw [if_neg h]
                        by_cases h2 : j < i
                        · rw [if_pos h2, if_pos (by omega)]
                        · rw [if_neg h2, if_neg (by omega)]
                    have HG18 : Hid (((wr.drew.setCell ⟨D, i, none⟩ (.bool true)).setCell ⟨K, i, none⟩ (.bool r.br)).rowIs g1 4 (s.size + 1) (fun j => .bool (reachF s r.bf allF j))) := (HG1i.out.drew.of_block (Below.heap_setCell _ _ _ _ (show g1 ≠ D by omega))).of_block (Below.heap_setCell _ _ _ _ (show g1 ≠ K by omega))
                    have HG28 : Hid (((wr.drew.setCell ⟨D, i, none⟩ (.bool true)).setCell ⟨K, i, none⟩ (.bool r.br)).rowIs g2 4 (s.size + 1) (fun j => .bool (reachF bk r.af.reverse allF j))) := (HG2i.out.drew.of_block (Below.heap_setCell _ _ _ _ (show g2 ≠ D by omega))).of_block (Below.heap_setCell _ _ _ _ (show g2 ≠ K by omega))
                    have HZ8 : Hid (((wr.drew.setCell ⟨D, i, none⟩ (.bool true)).setCell ⟨K, i, none⟩ (.bool r.br)).cell? ⟨q, 0, none⟩ = some (.bool r.br)) := by
                      show _ = _
                      rw [World.cell?_of_block (w := wr.drew.setCell ⟨D, i, none⟩ (.bool true)) (Below.heap_setCell _ _ _ _ (show q ≠ K by omega)), World.cell?_of_block (w := wr.drew) (Below.heap_setCell _ _ _ _ (show q ≠ D by omega))]
                      exact z0i
                    have HB8 : Hid (Below w.heap.size w ((wr.drew.setCell ⟨D, i, none⟩ (.bool true)).setCell ⟨K, i, none⟩ (.bool r.br))) := (HBi.out.drew.setCell (p := ⟨D, i, none⟩) (show w.heap.size ≤ D by omega) _).setCell (p := ⟨K, i, none⟩) (show w.heap.size ≤ K by omega) _
                    go_upto_region 14 with fail
                    go_region
                    go_wp2_with fail
                    go_roundg (s.size + 1 - (i + 1))
                    case measure => omega
                    case rel => exact ⟨i + 1, by go_num, by omega, by omega, HD8.out, HK8.out, HG18.out, HG28.out, HZ8.out, HB8.out, Nat.le_refl _⟩
            · have hge : s.size ≤ i := by omega
              have hii : ¬ (i : Int) < (s.size : Int) := by omega
              have HDE : Hid (wr.rowIs D 4 (s.size + 1) (fun j => .bool (decide (0 < j ∧ j < s.size) && foundF (rs.take (k + 1)) s j))) := HDi.out.congr fun j hj => by
                by_cases h : j < i
                · rw [if_pos h]
                · rw [if_neg h, decide_eq_false (by omega)]; rfl
              have HKE : Hid (wr.rowIs K 4 (s.size + 1) (fun j => .bool (decide (0 < j ∧ j < s.size) && decideF (rs.take (k + 1)) s j))) := HKi.out.congr fun j hj => by
                by_cases h : j < i
                · rw [if_pos h]
                · rw [if_neg h, decide_eq_false (by omega)]; rfl
              go_wp2_with fail
              go_roundg (xs.length - (k + 1))
              case measure => omega
              case rel => exact ⟨k + 1, by go_num, by omega, HDE.out, HKE.out, HBi.out, Nat.le_refl _⟩
      · simp only [Act.put, List.setIfInBounds_toArray, List.set_cons_zero, List.set_cons_succ]
        refine wpAny_val 1 (some 36) (.slice uA un uc) (by kernel_rfl) rfl rfl (by kernel_rfl) (ex_load 108 _ (.pointer (some ⟨q, 1, none⟩)) _ rfl (by kernel_rfl) (HL1.out)) ?_
        simp only [Act.put, List.setIfInBounds_toArray, List.set_cons_zero, List.set_cons_succ]
        refine wpAny_call 3 (some 38) (by kernel_rfl) rfl rfl (by kernel_rfl) 102 (#[.slice uA un uc, .string s]) (by go_simp) (ends_any r.bf s _ wr4.drew HU4.out (by omega) hbl0) ?_
        rintro e w5 ⟨g1, rfl, hg1, hr1, hb5⟩
        refine ⟨_, rfl, ?_⟩
        have HL3 : Hid (∀ w', w'.heap = w5.heap → (Instr.loadAt 108 (.pointer (some ⟨q, 2, none⟩))).run Tryz.prog w' = .ok (.slice tA tn tc) w') := fun w' hw' => ld_slice (by rw [World.cell?_of_block (w := w5) (by rw [hw'])]; exact (hb5.cell (p := ⟨q, 2, none⟩) hq4).trans z2)
        change wpAny _ _ _ _ _ _ (Act.put _ (some 38) _) _
        simp only [Act.put, List.setIfInBounds_toArray, List.set_cons_zero, List.set_cons_succ]
        refine wpAny_call 6 (some 41) (by kernel_rfl) rfl rfl (by kernel_rfl) 103 (#[.slice tA tn tc]) (by go_simp) (revp_any r.af _ w5 ((show RdE atC 34 wr4.drew _ _ from HT4.out).below hb5 (Nat.le_refl _)) hal0) ?_
        rintro e w6 ⟨v6, rfl, hr6, hb6⟩
        refine ⟨_, rfl, ?_⟩
        change wpAny _ _ _ _ _ _ (Act.put _ (some 41) _) _
        simp only [Act.put, List.setIfInBounds_toArray, List.set_cons_zero, List.set_cons_succ]
        refine wpAny_call 8 (some 43) (by kernel_rfl) rfl rfl (by kernel_rfl) 102 (#[v6, .string bk]) (by go_simp) (ends_any r.af.reverse bk v6 w6 hr6 (by omega) (by simp; omega)) ?_
        rintro e w7 ⟨g2, rfl, hg2, hr2, hb7⟩
        refine ⟨_, rfl, ?_⟩
        rw [hbks]
        change wpAny _ _ _ _ _ _ (Act.put _ (some 43) _) _
        simp only [Act.put, List.setIfInBounds_toArray, List.set_cons_zero, List.set_cons_succ]
        refine wpAny_at (i := 9) (v := .slice (some ⟨g1, 0, none⟩) (s.size + 1) (s.size + 1)) (some 10) rfl rfl (by kernel_rfl) (by kernel_rfl) (by kernel_rfl) (fun _ _ _ h => h) (by kernel_rfl) (fun _ => ex_assign _ _ rfl (by kernel_rfl)) ?_
        simp only [Act.put, List.setIfInBounds_toArray, List.set_cons_zero, List.set_cons_succ]
        refine wpAny_at (i := 10) (v := .slice (some ⟨g2, 0, none⟩) (s.size + 1) (s.size + 1)) (some 11) rfl rfl (by kernel_rfl) (by kernel_rfl) (by kernel_rfl) (fun _ _ _ h => h) (by kernel_rfl) (fun _ => ex_assign _ _ rfl (by kernel_rfl)) ?_
        simp only [Act.put, List.setIfInBounds_toArray, List.set_cons_zero, List.set_cons_succ]
        refine wpAny_done (by kernel_rfl) ?_ _
        rw [hbks] at hr2
        have HG1 : Hid (w7.rowIs g1 4 (s.size + 1) (fun j => .bool (reachF s r.bf allF j))) := (hr1.of_block (hb6.block _ hr1.lt)).of_block (hb7.block _ (hr1.of_block (hb6.block _ hr1.lt)).lt)
        have HG2 : Hid (w7.rowIs g2 4 (s.size + 1) (fun j => .bool (reachF bk r.af.reverse allF j))) := hr2
        have HBq : Hid (Below wr4.heap.size wr4 w7) := ((below_drewN (Below.refl _ wr4) 1).trans hb5).trans ((hb6.trans (hb7.mono hb6.size)).mono hb5.size)
        have HD7 := Lib.hid (HD4.out.of_block (HBq.out.block _ HD4.out.lt))
        have HK7 := Lib.hid (HK4.out.of_block (HBq.out.block _ HK4.out.lt))
        have HB7 := Lib.hid (HB4.out.trans (HBq.out.mono HB4.out.size))
        have z0w := (HBq.out.cell (p := ⟨q, 0, none⟩) hq4).trans z0
        have hg1q : q < g1 := Nat.lt_of_lt_of_le hq4 hg1
        have hg2q : q < g2 := Nat.lt_of_lt_of_le hq4 (Nat.le_trans (Nat.le_trans hb5.size hb6.size) hg2)
        clear hr1 hr2 hb5 hb6 hb7 HL3 hr6 HBq z0 z1 z2 HL1 HL2 HD4 HK4 HB4 HU4 HT4 HQ hq4
        go_wp2_with fail
        obtain ⟨wo2, HWO2⟩ : ∃ wo, Hid (wo = w7) := ⟨w7, rfl⟩
        go_loopg [12] (s.size + 1) (fun gk iv wr => ∃ i : Nat, iv = .int .i64 i ∧ 1 ≤ i ∧ i ≤ s.size + 1 ∧ Hid (wr.rowIs D 4 (s.size + 1) (fun j => .bool (if j < i then decide (0 < j ∧ j < s.size) && foundF (rs.take (k + 1)) s j else decide (0 < j ∧ j < s.size) && foundF (rs.take k) s j))) ∧ Hid (wr.rowIs K 4 (s.size + 1) (fun j => .bool (if j < i then decide (0 < j ∧ j < s.size) && decideF (rs.take (k + 1)) s j else decide (0 < j ∧ j < s.size) && decideF (rs.take k) s j))) ∧ Hid (wr.rowIs g1 4 (s.size + 1) (fun j => .bool (reachF s r.bf allF j))) ∧ Hid (wr.rowIs g2 4 (s.size + 1) (fun j => .bool (reachF bk r.af.reverse allF j))) ∧ wr.cell? ⟨q, 0, none⟩ = some (.bool r.br) ∧ Hid (Below w.heap.size w wr) ∧ s.size + 1 - i ≤ gk)
        case atStart => exact ⟨1, rfl, Nat.le_refl _, by omega, HD7.out.congr (fun j _ => by
            by_cases h : j < 1
            · rw [if_pos h, show j = 0 by omega]; rfl
            · rw [if_neg h]), HK7.out.congr (fun j _ => by
            by_cases h : j < 1
            · rw [if_pos h, show j = 0 by omega]; rfl
            · rw [if_neg h]), HG1.out, HG2.out, z0w, HB7.out, by omega⟩
        case round =>
          clear HD7 HK7 HG1 HG2 z0w HB7 HWO2
          obtain ⟨i, rfl, hi1, hi2, HDi, HKi, HG1i, HG2i, z0i, HBi, hgki⟩ := hrel
          by_cases hil : i < s.size
          · have hii : (i : Int) < (s.size : Int) := by omega
            have hi0 : (0 : Int) ≤ (i : Int) := by omega
            have hi3 : (i : Int) < (s.size : Int) + 1 := by omega
            obtain ⟨t, ht⟩ : ∃ t, t + i = s.size := ⟨s.size - i, by omega⟩
            have hsub : (s.size : Int) - (i : Int) = (t : Int) := by omega
            have ht0 : (0 : Int) ≤ (t : Int) := by omega
            have ht1 : (t : Int) < (s.size : Int) + 1 := by omega
            have qd := HDi.out.cell (i := i) (by omega)
            rw [if_neg (Nat.lt_irrefl i), decide_eq_true ⟨hi1, hil⟩, Bool.true_and] at qd
            have qk := HKi.out.cell (i := i) (by omega)
            have qb := HG1i.out.cell (i := i) (by omega)
            rw [ends_suf r.bf s i (by omega)] at qb
            have qa := HG2i.out.cell (i := t) (by omega)
            rw [show t = s.size - i by omega, ends_pre r.af hbks HBT.out i (by omega), show s.size - i = t by omega] at qa
            have hnd : foundF (rs.take (k + 1)) s i = (foundF (rs.take k) s i || (suffixF r.bf (s.extract 0 i) && prefixF r.af (s.extract i s.size))) := by rw [HTK.out, found_snoc]; rfl
            have hnk : decideF (rs.take (k + 1)) s i = if foundF (rs.take k) s i = true then decideF (rs.take k) s i else ((suffixF r.bf (s.extract 0 i) && prefixF r.af (s.extract i s.size)) && r.br) := by rw [HTK.out, decide_snoc]; rfl
            have hno := decide_none (rs.take k) s i
            cases hfd : foundF (rs.take k) s i with
            | true =>
              rw [hfd] at qd
              have hnew1 : (decide (0 < i ∧ i < s.size) && foundF (rs.take (k + 1)) s i) = (decide (0 < i ∧ i < s.size) && foundF (rs.take k) s i) := by rw [hnd, hfd]; rfl
              have hnew2 : (decide (0 < i ∧ i < s.size) && decideF (rs.take (k + 1)) s i) = (decide (0 < i ∧ i < s.size) && decideF (rs.take k) s i) := by rw [hnk, if_pos hfd]
              clear hnd hnk hno
              have HDN : Hid (wr.rowIs D 4 (s.size + 1) (fun j => .bool (if j < i + 1 then decide (0 < j ∧ j < s.size) && foundF (rs.take (k + 1)) s j else decide (0 < j ∧ j < s.size) && foundF (rs.take k) s j))) := HDi.out.congr fun j hj => by
                by_cases h : j = i
                · rw [if_neg (by omega), if_pos (by omega), h, hnew1]
                · by_cases h2 : j < i
                  · rw [if_pos h2, if_pos (by omega)]
                  · rw [if_neg h2, if_neg (by omega)]
              have HKN : Hid (wr.rowIs K 4 (s.size + 1) (fun j => .bool (if j < i + 1 then decide (0 < j ∧ j < s.size) && decideF (rs.take (k + 1)) s j else decide (0 < j ∧ j < s.size) && decideF (rs.take k) s j))) := HKi.out.congr fun j hj => by
                by_cases h : j = i
                · rw [if_neg (by omega), if_pos (by omega), h, hnew2]
                · by_cases h2 : j < i
                  · rw [if_pos h2, if_pos (by omega)]
                  · rw [if_neg h2, if_neg (by omega)]
              clear hnew1 hnew2
              go_wp2_with fail
              go_roundg (s.size + 1 - (i + 1))
              case measure => omega
              case rel => exact ⟨i + 1, by go_num, by omega, by omega, HDN.out, HKN.out, HG1i.out, HG2i.out, z0i, HBi.out, Nat.le_refl _⟩
            | false =>
              rw [hfd] at qd
              cases hsb : suffixF r.bf (s.extract 0 i) with
              | false =>
                rw [hsb] at qb
                have hnew1 : (decide (0 < i ∧ i < s.size) && foundF (rs.take (k + 1)) s i) = (decide (0 < i ∧ i < s.size) && foundF (rs.take k) s i) := by rw [hnd, hfd, hsb]; rfl
                have hnew2 : (decide (0 < i ∧ i < s.size) && decideF (rs.take (k + 1)) s i) = (decide (0 < i ∧ i < s.size) && decideF (rs.take k) s i) := by rw [hnk, if_neg (by rw [hfd]; exact Bool.false_ne_true), hsb, hno hfd]; rfl
                clear hnd hnk hno
                have HDN : Hid (wr.rowIs D 4 (s.size + 1) (fun j => .bool (if j < i + 1 then decide (0 < j ∧ j < s.size) && foundF (rs.take (k + 1)) s j else decide (0 < j ∧ j < s.size) && foundF (rs.take k) s j))) := HDi.out.congr fun j hj => by
                  by_cases h : j = i
                  · rw [if_neg (by omega), if_pos (by omega), h, hnew1]
                  · by_cases h2 : j < i
                    · rw [if_pos h2, if_pos (by omega)]
                    · rw [if_neg h2, if_neg (by omega)]
                have HKN : Hid (wr.rowIs K 4 (s.size + 1) (fun j => .bool (if j < i + 1 then decide (0 < j ∧ j < s.size) && decideF (rs.take (k + 1)) s j else decide (0 < j ∧ j < s.size) && decideF (rs.take k) s j))) := HKi.out.congr fun j hj => by
                  by_cases h : j = i
                  · rw [if_neg (by omega), if_pos (by omega), h, hnew2]
                  · by_cases h2 : j < i
                    · rw [if_pos h2, if_pos (by omega)]
                    · rw [if_neg h2, if_neg (by omega)]
                clear hnew1 hnew2
                go_wp2_with fail
                go_roundg (s.size + 1 - (i + 1))
                case measure => omega
                case rel => exact ⟨i + 1, by go_num, by omega, by omega, HDN.out, HKN.out, HG1i.out, HG2i.out, z0i, HBi.out, Nat.le_refl _⟩
              | true =>
                rw [hsb] at qb
                cases hpa : prefixF r.af (s.extract i s.size) with
                | false =>
                  rw [hpa] at qa
                  have hnew1 : (decide (0 < i ∧ i < s.size) && foundF (rs.take (k + 1)) s i) = (decide (0 < i ∧ i < s.size) && foundF (rs.take k) s i) := by rw [hnd, hfd, hsb, hpa]; rfl
                  have hnew2 : (decide (0 < i ∧ i < s.size) && decideF (rs.take (k + 1)) s i) = (decide (0 < i ∧ i < s.size) && decideF (rs.take k) s i) := by rw [hnk, if_neg (by rw [hfd]; exact Bool.false_ne_true), hsb, hpa, hno hfd]; rfl
                  clear hnd hnk hno
                  have HDN : Hid (wr.rowIs D 4 (s.size + 1) (fun j => .bool (if j < i + 1 then decide (0 < j ∧ j < s.size) && foundF (rs.take (k + 1)) s j else decide (0 < j ∧ j < s.size) && foundF (rs.take k) s j))) := HDi.out.congr fun j hj => by
                    by_cases h : j = i
                    · rw [if_neg (by omega), if_pos (by omega), h, hnew1]
                    · by_cases h2 : j < i
                      · rw [if_pos h2, if_pos (by omega)]
                      · rw [if_neg h2, if_neg (by omega)]
                  have HKN : Hid (wr.rowIs K 4 (s.size + 1) (fun j => .bool (if j < i + 1 then decide (0 < j ∧ j < s.size) && decideF (rs.take (k + 1)) s j else decide (0 < j ∧ j < s.size) && decideF (rs.take k) s j))) := HKi.out.congr fun j hj => by
                    by_cases h : j = i
                    · rw [if_neg (by omega), if_pos (by omega), h, hnew2]
                    · by_cases h2 : j < i
                      · rw [if_pos h2, if_pos (by omega)]
                      · rw [if_neg h2, if_neg (by omega)]
                  clear hnew1 hnew2
                  go_wp2_with fail
                  go_roundg (s.size + 1 - (i + 1))
                  case measure => omega
                  case rel => exact ⟨i + 1, by go_num, by omega, by omega, HDN.out, HKN.out, HG1i.out, HG2i.out, z0i, HBi.out, Nat.le_refl _⟩
                | true =>
                  rw [hpa] at qa
                  have hnew1 : foundF (rs.take (k + 1)) s i = true := by rw [hnd, hfd, hsb, hpa]; rfl
                  have hnew2 : decideF (rs.take (k + 1)) s i = r.br := by rw [hnk, if_neg (by rw [hfd]; exact Bool.false_ne_true), hsb, hpa]; rfl
                  clear hnd hnk hno
                  have fd := HDi.out.frozen i
                  have fk := HKi.out.frozen i
                  have hne : ¬ D = K := by omega
                  have hne2 : ¬ K = D := by omega
                  have HD8 : Hid (((wr.drew.setCell ⟨D, i, none⟩ (.bool true)).setCell ⟨K, i, none⟩ (.bool r.br)).rowIs D 4 (s.size + 1) (fun j => .bool (if j < i + 1 then decide (0 < j ∧ j < s.size) && foundF (rs.take (k + 1)) s j else decide (0 < j ∧ j < s.size) && foundF (rs.take k) s j))) := ((HDi.out.drew.set i (.bool true)).of_block (Below.heap_setCell _ _ _ _ (show D ≠ K by omega))).congr fun j hj => by
                    by_cases h : j = i
                    · rw [if_pos h, if_pos (by omega), h, hnew1, decide_eq_true ⟨hi1, hil⟩]; rfl
                    · rw [if_neg h]
                      by_cases h2 : j < i
                      · rw [if_pos h2, if_pos (by omega)]
                      · rw [if_neg h2, if_neg (by omega)]
                  have HK8 : Hid (((wr.drew.setCell ⟨D, i, none⟩ (.bool true)).setCell ⟨K, i, none⟩ (.bool r.br)).rowIs K 4 (s.size + 1) (fun j => .bool (if j < i + 1 then decide (0 < j ∧ j < s.size) && decideF (rs.take (k + 1)) s j else decide (0 < j ∧ j < s.size) && decideF (rs.take k) s j))) := ((HKi.out.drew.of_block (Below.heap_setCell _ _ _ _ (show K ≠ D by omega))).set i (.bool r.br)).congr fun j hj => by
                    by_cases h : j = i
                    · rw [if_pos h, if_pos (by omega), h, hnew2, decide_eq_true ⟨hi1, hil⟩]; rfl
                    · rw [if_neg h]
                      by_cases h2 : j < i
                      · rw [if_pos h2, if_pos (by omega)]
                      · rw [if_neg h2, if_neg (by omega)]
                  have HG18 : Hid (((wr.drew.setCell ⟨D, i, none⟩ (.bool true)).setCell ⟨K, i, none⟩ (.bool r.br)).rowIs g1 4 (s.size + 1) (fun j => .bool (reachF s r.bf allF j))) := (HG1i.out.drew.of_block (Below.heap_setCell _ _ _ _ (show g1 ≠ D by omega))).of_block (Below.heap_setCell _ _ _ _ (show g1 ≠ K by omega))
                  have HG28 : Hid (((wr.drew.setCell ⟨D, i, none⟩ (.bool true)).setCell ⟨K, i, none⟩ (.bool r.br)).rowIs g2 4 (s.size + 1) (fun j => .bool (reachF bk r.af.reverse allF j))) := (HG2i.out.drew.of_block (Below.heap_setCell _ _ _ _ (show g2 ≠ D by omega))).of_block (Below.heap_setCell _ _ _ _ (show g2 ≠ K by omega))
                  have HZ8 : Hid (((wr.drew.setCell ⟨D, i, none⟩ (.bool true)).setCell ⟨K, i, none⟩ (.bool r.br)).cell? ⟨q, 0, none⟩ = some (.bool r.br)) := by
                    show _ = _
                    rw [World.cell?_of_block (w := wr.drew.setCell ⟨D, i, none⟩ (.bool true)) (Below.heap_setCell _ _ _ _ (show q ≠ K by omega)), World.cell?_of_block (w := wr.drew) (Below.heap_setCell _ _ _ _ (show q ≠ D by omega))]
                    exact z0i
                  have HB8 : Hid (Below w.heap.size w ((wr.drew.setCell ⟨D, i, none⟩ (.bool true)).setCell ⟨K, i, none⟩ (.bool r.br))) := (HBi.out.drew.setCell (p := ⟨D, i, none⟩) (show w.heap.size ≤ D by omega) _).setCell (p := ⟨K, i, none⟩) (show w.heap.size ≤ K by omega) _
                  go_upto_region 14 with fail
                  go_region
                  go_wp2_with fail
                  go_roundg (s.size + 1 - (i + 1))
                  case measure => omega
                  case rel => exact ⟨i + 1, by go_num, by omega, by omega, HD8.out, HK8.out, HG18.out, HG28.out, HZ8.out, HB8.out, Nat.le_refl _⟩
          · have hge : s.size ≤ i := by omega
            have hii : ¬ (i : Int) < (s.size : Int) := by omega
            have HDE : Hid (wr.rowIs D 4 (s.size + 1) (fun j => .bool (decide (0 < j ∧ j < s.size) && foundF (rs.take (k + 1)) s j))) := HDi.out.congr fun j hj => by
              by_cases h : j < i
              · rw [if_pos h]
              · rw [if_neg h, decide_eq_false (by omega)]; rfl
            have HKE : Hid (wr.rowIs K 4 (s.size + 1) (fun j => .bool (decide (0 < j ∧ j < s.size) && decideF (rs.take (k + 1)) s j))) := HKi.out.congr fun j hj => by
              by_cases h : j < i
              · rw [if_pos h]
              · rw [if_neg h, decide_eq_false (by omega)]; rfl
            go_wp2_with fail
            go_roundg (xs.length - (k + 1))
            case measure => omega
            case rel => exact ⟨k + 1, by go_num, by omega, HDE.out, HKE.out, HBi.out, Nat.le_refl _⟩
    · obtain rfl : k = xs.length := by omega
      have hki : ¬ (xs.length : Int) < (xs.length : Int) := by omega
      have HKF : Hid (wr.rowIs K 4 (s.size + 1) (fun j => .bool (rowB rs s j))) := HK.out.congr fun j hj => by
        rw [List.take_of_length_le hxb]; rfl
      have e0 : uptoN (rowB rs s) (s.size + 1) = breaksF rs s := breaks_row rs s (by omega)
      have E0 := Lib.hid e0
      clear HD HK e0
      obtain ⟨M, hM⟩ : ∃ M, Hid (M = wr.heap.size) := ⟨_, rfl⟩
      have hKM : K < M := by rw [hM.out]; exact HKF.out.lt
      have hwM : w.heap.size ≤ M := by rw [hM.out]; exact HB.out.size
      have hMw : M ≤ wr.heap.size := by rw [hM.out]; exact Nat.le_refl _
      go_wp2_with fail
      obtain ⟨wo3, HWO3⟩ : ∃ wo, Hid (wo = wr) := ⟨wr, rfl⟩
      go_loopg [13, 81] (s.size + 1) (fun gk ov kv wr => ∃ (k : Nat) (q : List Int) (A : Option Addr) (c : Nat), ov = .slice A q.length c ∧ kv = .int .i64 k ∧ k ≤ s.size + 1 ∧ Hid (q = uptoN (rowB rs s) k) ∧ Hid (OwnE 3 intC 1 wr M (.slice A q.length c) q) ∧ Hid (wr.rowIs K 4 (s.size + 1) (fun j => .bool (rowB rs s j))) ∧ M ≤ wr.heap.size ∧ Hid (Below w.heap.size w wr) ∧ q.length ≤ k ∧ s.size + 1 - k ≤ gk)
      case atStart => exact ⟨0, [], none, 0, rfl, rfl, by omega, rfl, OwnE.nil, HKF.out, hMw, HB.out, Nat.le_refl _, by omega⟩
      case round =>
        clear HKF HB hMw HWO3 hM
        obtain ⟨k, q, A, c, rfl, rfl, hk2, HQ, HO, HK2, hMr, HB2, hqk, hgk2⟩ := hrel
        by_cases hkl2 : k < s.size + 1
        · have hkj : (k : Int) < (s.size : Int) + 1 := by omega
          have hk0 : (0 : Int) ≤ (k : Int) := by omega
          have qk := HK2.out.cell (i := k) hkl2
          have HQ2 : Hid (uptoN (rowB rs s) (k + 1) = q ++ if rowB rs s k = true then [(k : Int)] else []) := by show _ = _; rw [uptoN_succ, HQ.out]
          cases hb : rowB rs s k with
          | false =>
            rw [hb] at qk HQ2
            rw [if_neg Bool.false_ne_true, List.append_nil] at HQ2
            go_wp2_with fail
            go_roundg (s.size + 1 - (k + 1))
            case measure => omega
            case rel => exact ⟨k + 1, q, A, c, rfl, by go_num, by omega, HQ2.out.symm, HO.out, HK2.out, hMr, HB2.out, by omega, Nat.le_refl _⟩
          | true =>
            rw [hb] at qk HQ2
            rw [if_pos rfl] at HQ2
            go_wp2_with (at_builtin; go_must (refine wpList_app1 rfl (.tmp 87) (.tmp 89) 22 3 rfl Tryz.underlying22 _ 1 8 int_info6 rfl (by decide) M (.slice A q.length c) q.length (q.flatMap intC) rfl (own_below HO.out ((Below.refl _ wr).alloc (Nat.le_refl _) _) (Nat.le_refl _)) ⟨wr.heap.size, 0, none⟩ 1 (intC k) rfl rfl (cells_new wr (intC k) 3) (intC_oneA k) (by omega) (by decide) (by simp; omega) ?_); intro g9 cap w9 hown9 hbg9 hbel9 hgrow9)
            have hbn := hbel9 M wr (Nat.le_refl _) ((Below.refl M wr).alloc hMr (.cells (intC k).toArray 3))
            have HB9 := Lib.hid (HB2.out.trans (hbn.mono hwM))
            have HO9 : Hid (OwnE 3 intC 1 w9 M (.slice (some ⟨g9, 0, none⟩) (q.length + 1) cap) (q ++ [(k : Int)])) := OwnE.snoc hown9
            have HK9 := Lib.hid (HK2.out.of_block (hbn.block _ hKM))
            have hM9 := Nat.le_trans hMr hbn.size
            clear hown9 hbel9 hgrow9 hbn
            go_wp2_with fail
            go_roundg (s.size + 1 - (k + 1))
            case measure => omega
            case rel => exact ⟨k + 1, q ++ [(k : Int)], some ⟨g9, 0, none⟩, cap, by (show Value.slice _ _ _ = Value.slice _ _ _); rw [List.length_append]; rfl, by go_num, by omega, HQ2.out.symm, by (show OwnE _ _ _ _ _ _ _); rw [List.length_append]; exact HO9.out, HK9.out, hM9, HB9.out, by rw [List.length_append]; show q.length + 1 ≤ k + 1; omega, Nat.le_refl _⟩
        · obtain rfl : k = s.size + 1 := by omega
          have hkj : ¬ (((s.size + 1 : Nat)) : Int) < (s.size : Int) + 1 := by omega
          have E1 : Hid (q = breaksF rs s) := HQ.out.trans E0.out
          go_wp2_with fail
          rw [HRR.out]
          have h := own_base HO.out hwM
          rw [← E1.out]
          exact ⟨_, rfl, h, HB2.out⟩

end Go.Proofs.YtfkojnofbpdjdaaGreatDoor

namespace Go.Proofs.YtfkojnofbpdjdaaGreatDoor
set_option maxRecDepth 100000
open Go.RowKit

end Go.Proofs.YtfkojnofbpdjdaaGreatDoor

namespace Go.Proofs.YtfkojnofbpdjdaaGreatDoor
set_option maxRecDepth 100000
open Go.RowKit

end Go.Proofs.YtfkojnofbpdjdaaGreatDoor

namespace Go.Proofs.YtfkojnofbpdjdaaGreatDoor
set_option maxRecDepth 100000
open Go.RowKit

end Go.Proofs.YtfkojnofbpdjdaaGreatDoor

namespace Go.Proofs.YtfkojnofbpdjdaaGreatDoor
set_option maxRecDepth 100000
open Go.RowKit

end Go.Proofs.YtfkojnofbpdjdaaGreatDoor

namespace Go.Proofs.YtfkojnofbpdjdaaGreatDoor
set_option maxRecDepth 100000

end Go.Proofs.YtfkojnofbpdjdaaGreatDoor

namespace Go.Proofs.YtfkojnofbpdjdaaGreatDoor
set_option maxRecDepth 100000
open Go.RowKit

/-- The bounds under which a list of rules is asked. -/
def RuSmall (rs : List Ru) : Prop := rs.length ≤ 1000000 ∧ ∀ r ∈ rs, r.bf.length ≤ 1000000 ∧ r.af.length ≤ 1000000


end Go.Proofs.YtfkojnofbpdjdaaGreatDoor

namespace Go.Proofs.YtfkojnofbpdjdaaGreatDoor
set_option maxRecDepth 100000

/-- The breaks as natural numbers. -/
def bnF (rs : List Ru) (s : ByteArray) : List Nat := if 1024 < s.size then [] else (List.range s.size).filter fun k => decide (0 < k) && decideF rs s k
theorem breaks_nat (rs : List Ru) (s : ByteArray) : breaksF rs s = (bnF rs s).map fun (k : Nat) => (k : Int) := by
  unfold breaksF bnF
  split <;> rfl
theorem bnF_asc (rs : List Ru) (s : ByteArray) : (0 :: bnF rs s).Pairwise (· ≤ ·) := by
  refine List.pairwise_cons.2 ⟨fun _ _ => Nat.zero_le _, ?_⟩
  unfold bnF
  split
  · exact List.Pairwise.nil
  · exact ((List.pairwise_lt_range (n := s.size)).filter _).imp fun h => Nat.le_of_lt h
theorem bnF_le (rs : List Ru) (s : ByteArray) : ∀ b ∈ bnF rs s, b < s.size := by
  unfold bnF
  intro b hb
  split at hb
  · simp at hb
  · exact List.mem_range.1 (List.mem_filter.1 hb).1
theorem bnF_len (rs : List Ru) (s : ByteArray) : (bnF rs s).length ≤ s.size := by
  unfold bnF
  split
  · simp
  · exact Nat.le_trans (List.length_filter_le _ _) (by simp)
def rangesF (rs : List Ru) (f : List Tk) : List (Nat × Nat) := rngF (sqF f) 0 (cutsF f (bnF rs (plS f)))
theorem cuts_ok (rs : List Ru) (f : List Tk) : AscF 0 (cutsF f (bnF rs (plS f))) (lenI f) := by
  have hs := plS_size f
  have h := cuts_asc f (bnF rs (plS f)) 0 (bnF_asc _ _) (fun b hb => by
    rcases List.mem_cons.1 hb with rfl | hb
    · exact Nat.zero_le _
    · have := bnF_le _ _ b hb
      omega)
  exact h.zero (by unfold cutsF; simp)
theorem cuts_len (f : List Tk) (bn : List Nat) : (cutsF f bn).length = bn.length + 1 := by unfold cutsF; simp
theorem cuts_at (f : List Tk) (bn : List Nat) (k : Nat) (h : k < bn.length) : (cutsF f bn)[k]? = some (placeP (posI f) bn[k]) := by
  unfold cutsF
  rw [List.getElem?_append_left (by simpa using h), List.getElem?_map, List.getElem?_eq_getElem h]
  rfl
theorem cuts_end (f : List Tk) (bn : List Nat) : (cutsF f bn)[bn.length]? = some (lenI f) := by
  unfold cutsF
  rw [List.getElem?_append_right (by simp)]
  simp
theorem placeF_nat (f : List Tk) (b : Nat) (h : b ≤ (plI f).length) : placeF f (b : Int) = (placeP (posI f) b : Nat) := by
  unfold placeF
  rw [if_neg (by omega), Int.toNat_natCast]
/-- What a segment of a cut says of the two loops. -/
theorem sgF_yes (R : List (Bool × Bool)) (p q : Nat) (hR : ∀ c ∈ R, c.1 = true → c.2 = false) (hq : q ≤ R.length) (ha : ((R.take q).drop p).any (·.1) = true) : sgF R p q = [(frI R p, bkI R q)] ∧ p ≤ frI R p ∧ frI R p < bkI R q ∧ bkI R q ≤ q ∧ (∃ h : frI R p < R.length, R[frI R p].2 = false) ∧ (∃ h : bkI R q - 1 < R.length, R[bkI R q - 1].2 = false) := by
  obtain ⟨j, hj, h1, h2, h3, h4⟩ := any_pos R p q hR ha
  have e1 := frI_ge R p
  have e2 := frI_le R p j h1 hj h4
  have e3 := bkI_gt R q j h2 hq h4
  have e4 := bkI_le R q
  refine ⟨by unfold sgF; rw [if_pos ha], e1, by omega, e4, ?_, ?_⟩
  · obtain ⟨k, hk, hkl, hks⟩ := frI_at R p j h1 hj h4
    rw [hk]
    exact ⟨hkl, hks⟩
  · obtain ⟨k, hk, hkl, hks⟩ := bkI_at R q j h2 hq h4
    rw [hk]
    exact ⟨hkl, hks⟩
theorem sgF_no (R : List (Bool × Bool)) (p q : Nat) (ha : ((R.take q).drop p).any (·.1) ≠ true) : sgF R p q = [] := by unfold sgF; rw [if_neg ha]
theorem fr_space (R : List (Bool × Bool)) (x j : Nat) (h1 : x ≤ j) (h2 : j < frI R x) : (R.map (·.2))[j]? = some true := by
  obtain ⟨h, hs⟩ := frI_none R x j h1 h2
  rw [List.getElem?_map, List.getElem?_eq_getElem h]
  simp [hs]
theorem bk_space (R : List (Bool × Bool)) (y j : Nat) (hyl : y ≤ R.length) (h1 : bkI R y ≤ j) (h2 : j < y) : (R.map (·.2))[j]? = some true := by
  have hs := bkI_none R y j hyl h1 h2
  rw [List.getElem?_map, List.getElem?_eq_getElem (by omega)]
  simp [hs]
/-- All that the walks want of a cut. -/
structure SegAt (S : List Bool) (p q x y : Nat) : Prop where
  px : p ≤ x
  xy : x < y
  yq : y ≤ q
  lead : ∀ j, p ≤ j → j < x → S[j]? = some true
  atx : S[x]? = some false
  tail : ∀ j, y ≤ j → j < q → S[j]? = some true
  aty : S[y - 1]? = some false
theorem segAt (f : List Tk) (p q : Nat) (hq : q ≤ lenI f) (ha : (plI (slI f 0 p q)).any (fun c => !spcB c) = true) : ∃ x y, sgF (sqF f) p q = [(x, y)] ∧ SegAt ((sqF f).map (·.2)) p q x y := by
  rw [plI_any, sqF_sl, Nat.sub_zero, Nat.sub_zero] at ha
  have hql : q ≤ (sqF f).length := by rw [sqF_len]; exact hq
  obtain ⟨h0, h1, h2, h3, ⟨h4, h5⟩, ⟨h6, h7⟩⟩ := sgF_yes (sqF f) p q (sqF_ex f) hql ha
  refine ⟨_, _, h0, h1, h2, h3, fun j a b => fr_space _ p j a b, ?_, fun j a b => bk_space _ q j hql a b, ?_⟩
  · rw [List.getElem?_map, List.getElem?_eq_getElem h4, Option.map_some, h5]
  · rw [List.getElem?_map, List.getElem?_eq_getElem h6, Option.map_some, h7]
theorem segNo (f : List Tk) (p q : Nat) (ha : (plI (slI f 0 p q)).any (fun c => !spcB c) ≠ true) : sgF (sqF f) p q = [] := by
  rw [plI_any, sqF_sl, Nat.sub_zero, Nat.sub_zero] at ha
  exact sgF_no _ _ _ ha
end Go.Proofs.YtfkojnofbpdjdaaGreatDoor

namespace Go.Proofs.YtfkojnofbpdjdaaGreatDoor
set_option maxRecDepth 100000
open Go.RowKit

theorem trim_any (s : ByteArray) (w : World) (hs : s.size ≤ maxLen) :
    Calls Tryz.prog 64 #[.string s] w fun e w' => ∃ x y : Nat, IsTrim s.data.toList x y ∧ e = .returned (.tuple #[.int .i64 x, .int .i64 y]) ∧ w = w' := by
  unfold maxLen at hs
  have hsz := Lib.size_eq s
  have HZ := Lib.hid hsz
  clear hsz
  go_enter Tryz.func64, Tryz.ntmps64
  go_wp2
  go_loop [2] (fun i => ∃ k : Nat, k ≤ s.size ∧ i = .int .i64 k ∧ Hid (∀ (j : Nat) (c : UInt8), j < k → s.data.toList[j]? = some c → clsN c.toNat = 2)) (fun i => s.size - (intOf i).toNat)
  case atStart => exact ⟨0, by omega, rfl, fun j c h => by omega⟩
  case round =>
    obtain ⟨k, hk, rfl, HR⟩ := hrel
    by_cases hlt : k < s.size
    · have h255 : s[k].toNat < 256 := s[k].toNat_lt
      have hgk := Lib.hid (show s.data.toList[k]? = some s[k] from List.getElem?_eq_getElem (by rw [← Lib.size_eq]; exact hlt))
      by_cases hsp : clsN (s[k].toNat : Int) = 2
      · have ht : (clsN (s[k].toNat : Int) == 2) = true := by rw [hsp]; rfl
        have HP := Lib.hid hsp
        clear hsp
        go_wp2_with (go_at_call 97; refine (of_any _ _ (by omega) (by omega)).mono ?_; rintro e w' ⟨rfl, rfl⟩)
        refine ⟨⟨k + 1, by omega, by go_num, fun j c hj hc => ?_⟩, by simp [intOf]; try omega⟩
        by_cases hjk : j = k
        · subst hjk
          rw [hgk.out] at hc
          injection hc with hc
          subst hc
          exact HP.out
        · exact HR.out j c (by omega) hc
      · have ht : (clsN (s[k].toNat : Int) == 2) = false := by simpa using hsp
        have HP := Lib.hid hsp
        clear hsp
        go_wp2_with (go_at_call 97; refine (of_any _ _ (by omega) (by omega)).mono ?_; rintro e w' ⟨rfl, rfl⟩)
        go_loop [3] (fun i => ∃ u : Nat, k ≤ u ∧ u < s.size ∧ i = .int .i64 ((u : Int) + 1) ∧ Hid (∀ (j : Nat) (c : UInt8), u + 1 ≤ j → s.data.toList[j]? = some c → clsN c.toNat = 2)) (fun i => (intOf i).toNat)
        case atStart =>
          refine ⟨s.size - 1, by omega, by omega, by go_num, fun j c hj hc => ?_⟩
          have := (List.getElem?_eq_some_iff.1 hc).1
          rw [← HZ.out] at this
          omega
        case round =>
          obtain ⟨u, hu1, hu2, rfl, HU⟩ := hrel
          have h255' : s[u].toNat < 256 := s[u].toNat_lt
          have hgu := Lib.hid (show s.data.toList[u]? = some s[u] from List.getElem?_eq_getElem (by rw [← Lib.size_eq]; exact hu2))
          by_cases hsp2 : clsN (s[u].toNat : Int) = 2
          · have hne : k ≠ u := by
              rintro rfl
              exact HP.out hsp2
            have ht2 : (clsN (s[u].toNat : Int) == 2) = true := by rw [hsp2]; rfl
            have HP2 := Lib.hid hsp2
            clear hsp2
            go_wp2_with (go_at_call 97; refine (of_any _ _ (by omega) (by omega)).mono ?_; rintro e w' ⟨rfl, rfl⟩)
            refine ⟨⟨u - 1, by omega, by omega, by go_num, fun j c hj hc => ?_⟩, by simp [intOf]; try omega⟩
            by_cases hju : j = u
            · subst hju
              rw [hgu.out] at hc
              injection hc with hc
              subst hc
              exact HP2.out
            · exact HU.out j c (by omega) hc
          · have ht2 : (clsN (s[u].toNat : Int) == 2) = false := by simpa using hsp2
            have HP2 := Lib.hid hsp2
            clear hsp2
            have hne : ((k : Int) == (u : Int) + 1) = false := by simp; omega
            go_wp2_with (go_at_call 97; refine (of_any _ _ (by omega) (by omega)).mono ?_; rintro e w' ⟨rfl, rfl⟩)
            go_ret2
            refine ⟨k, u + 1, .inr ⟨by omega, by rw [← HZ.out]; omega, fun c hc => ?_, fun c hc => ?_, fun j c hj hc => HR.out j c hj hc, fun j c hj hc => HU.out j c hj hc⟩, by go_num, rfl⟩
            · rw [hgk.out] at hc
              injection hc with hc
              subst hc
              exact HP.out
            · rw [Nat.add_sub_cancel, hgu.out] at hc
              injection hc with hc
              subst hc
              exact HP2.out
    · obtain rfl : k = s.size := by omega
      go_wp2
      go_loop [3] (fun i => i = .int .i64 (s.size : Nat)) (fun i => (intOf i).toNat)
      case atStart => rfl
      case round =>
        subst hrel
        go_wp2
        go_ret2
        refine ⟨0, 0, .inl ⟨rfl, rfl, fun j c hc => HR.out j c ?_ hc⟩, rfl, rfl⟩
        have := (List.getElem?_eq_some_iff.1 hc).1
        rw [← HZ.out] at this
        exact this

end Go.Proofs.YtfkojnofbpdjdaaGreatDoor

namespace Go.Proofs.YtfkojnofbpdjdaaGreatDoor
set_option maxRecDepth 100000
open Go.RowKit

/-- A range as cells. -/
def rangeC (r : Nat × Nat) : List Value := [.int .i64 (r.1 : Int), .int .i64 (r.2 : Int)]
theorem rangeC_two (r : Nat × Nat) : (rangeC r).length = 2 := rfl
theorem range_info : (Tryz.prog.info? 54).map (fun i => (i.zero, i.size, i.bytes)) = some (some (.agg #[.int .i64 0, .int .i64 0]), 2, 16) := by kernel_rfl
theorem range_one (r : Nat × Nat) : ∀ u ∈ rangeC r, u.oneCell' = true := by
  intro u hu
  simp [rangeC] at hu
  rcases hu with rfl | rfl <;> rfl

/-- A row of ranges of the call's own. -/
abbrev Ranges (w : World) (B : Nat) (v : Value) (l : List (Nat × Nat)) : Prop := w.ownsRow B 54 2 v l.length (l.flatMap rangeC)
theorem Ranges.nil (w : World) (B : Nat) : Ranges w B (.slice none 0 0) [] := World.ownsRow_nil _ _ _ _

theorem Ranges.snoc {w : World} {B : Nat} {v : Value} {l : List (Nat × Nat)} {x : Nat × Nat} (h : w.ownsRow B 54 2 v (l.length + 1) (l.flatMap rangeC ++ rangeC x)) : Ranges w B v (l ++ [x]) := by
  unfold Ranges
  rw [List.length_append, List.flatMap_append]
  simpa using h

end Go.Proofs.YtfkojnofbpdjdaaGreatDoor

namespace Go.Proofs.YtfkojnofbpdjdaaGreatDoor
set_option maxRecDepth 100000
open Go.RowKit

theorem box2 {w : World} {b : Nat} {v0 v1 : Value} {t : TypeId} (h : w.heap[b]? = some (.cells #[v0, v1] t)) :
    w.cell? ⟨b, 0, none⟩ = some v0 ∧ w.cell? ⟨b, 1, none⟩ = some v1 ∧ w.frozen? ⟨b, 0, none⟩ = false ∧ w.frozen? ⟨b, 1, none⟩ = false :=
  ⟨by rw [cell_of_row _ _ 0 _ _ _ h]; rfl, by rw [cell_of_row _ _ 1 _ _ _ h]; rfl, frozen_of_row w b 0 _ _ h, frozen_of_row w b 1 _ _ h⟩
/-- A row of ints, or of Bools, at a place. -/
theorem rd_one {α : Type} {g : α → List Value} {w : World} {A : Option Addr} {n c : Nat} {l : List α} (h : RdE g 1 w (.slice A n c) l) (k : Nat) (x : α) (u : Value) (hx : l[k]? = some x) (hu : (g x)[0]? = some u) : ∃ b o, A = some ⟨b, o, none⟩ ∧ b < w.heap.size ∧ w.cell? ⟨b, o + k, none⟩ = some u := by
  obtain ⟨b, o, hA, hb, hc⟩ := h.cells (by have := (List.getElem?_eq_some_iff.1 hx).1; omega)
  refine ⟨b, o, hA, hb, ?_⟩
  have := hc k x 0 u hx hu
  rwa [show o + (k * 1 + 0) = o + k by omega] at this

set_option maxRecDepth 100000 in
set_option maxHeartbeats 16000000 in
theorem ranges_any (rs : List Ru) (vr : Value) (f : List Tk) (v : Value) (w : World) (hr : RdRu w vr rs) (hsm : RuSmall rs) (h1 : RdT w v f) (hl : lenI f ≤ 1000000) (hfl : f.length ≤ 100000) :
    Calls Tryz.prog 31 #[vr, v] w (RetOwn 54 rangeC 2 w (rangesF rs f)) := by
  obtain ⟨R, HRR⟩ : ∃ R, Hid (R = RetOwn 54 rangeC 2 w (rangesF rs f)) := ⟨_, rfl⟩
  rw [← HRR.out]
  obtain ⟨A, c, rfl, _, _⟩ := h1.shape
  have HPL := Lib.hid (iplain_any f _ w h1 (by omega) (by omega))
  have hps := plS_size f
  have hpl := plI_len f
  have HBR := Lib.hid (fun (u : World) (h : Below w.heap.size w u) => breaks_any rs vr (plS f) u (hr.below h (Nat.le_refl _)) hsm.1 hsm.2)
  have HRD := Lib.hid (fun (u : World) (h : Below w.heap.size w u) => RdE.below h1 h (Nat.le_refl _))
  have HCO := Lib.hid (cuts_ok rs f)
  have hbl := bnF_len rs (plS f)
  have HBL := Lib.hid (bnF_le rs (plS f))
  have HGO : Hid (rangesF rs f = rngF (sqF f) 0 (cutsF f (bnF rs (plS f)))) := rfl
  rw [breaks_nat] at HBR
  generalize bnF rs (plS f) = bn at HBR HCO hbl HBL HGO
  generalize plS f = s at HPL HBR hps hbl HBL
  have hcl := cuts_len f bn
  have HCA := Lib.hid (fun k (h : k < bn.length) => cuts_at f bn k h)
  have HCE := Lib.hid (cuts_end f bn)
  generalize cutsF f bn = cs at HCO HGO hcl HCA HCE
  obtain ⟨lv, hlv⟩ : ∃ lv, Hid (lv = lenI f) := ⟨_, rfl⟩
  have hbn : bn.length ≤ 1000000 := by omega
  clear h1 hr
  go_enter Tryz.func31, Tryz.ntmps31
  go_wp2_with (first
    | (go_at_call 60; refine HPL.out.mono ?_; rintro e w1 ⟨rfl, hb1⟩; have HB1 := Lib.hid hb1)
    | (go_at_call 59; refine (HBR.out _ HB1.out).mono ?_; rintro e w2 ⟨v2, rfl, ho2, hb2⟩; have HB2 := Lib.hid (HB1.out.trans (hb2.mono HB1.out.size)); obtain ⟨Ab, cb, hvb⟩ := own_shape ho2; rw [List.length_map] at hvb; subst hvb))
  have HRB := Lib.hid (OwnE.rd (f := intC) (m := 1) (fun _ => rfl) ho2)
  have hz2 := HB2.out.size
  have HPA := Lib.hid (fun (o : Int) (u : World) (h : Below w2.heap.size w2 u) => place5_any f _ o u (HRD.out u (HB2.out.trans (h.mono hz2))) hl (by omega))
  have HLN := Lib.hid (fun (u : World) (h : Below w2.heap.size w2 u) => ilength_any f _ u (HRD.out u (HB2.out.trans (h.mono hz2))) (by omega) (by omega))
  clear ho2 hb2 hb1 HB1 HPL HBR
  obtain ⟨wo, HWO⟩ : ∃ wo, Hid (wo = w2) := ⟨w2, rfl⟩
  go_loopg [5, 7, 23] bn.length (fun gk ov bv jv wr => ∃ (k : Nat) (q : List Int) (Ac : Option Addr) (cc : Nat), ov = .slice Ac q.length cc ∧ jv = .int .i64 k ∧ k ≤ bn.length ∧ Hid (q = (cs.map fun (x : Nat) => (x : Int)).take k) ∧ q.length ≤ k ∧ Hid (OwnE 3 intC 1 wr w2.heap.size (.slice Ac q.length cc) q) ∧ Hid (Below w2.heap.size w2 wr) ∧ bn.length - k ≤ gk)
  case atStart => exact ⟨0, [], none, 0, rfl, rfl, Nat.zero_le _, by (show _ = _); rw [List.take_zero], by simp, OwnE.nil, Below.refl _ _, by omega⟩
  case round =>
    clear HWO
    obtain ⟨k, q, Ac, cc, rfl, rfl, hk, HQ, hqk, HO, HB, hgk⟩ := hrel
    have hsz := HB.out.size
    by_cases hkl : k < bn.length
    · have hki : (k : Int) < (bn.length : Int) := by omega
      have hk0 : (0 : Int) ≤ (k : Int) := by omega
      have hcsl : k < cs.length := by omega
      have hget : (bn.map fun (x : Nat) => (x : Int))[k]? = some (bn[k] : Int) := by rw [List.getElem?_map, List.getElem?_eq_getElem hkl]; rfl
      obtain ⟨b, o, rfl, hb, q1⟩ := rd_one HRB.out k _ _ hget rfl
      rw [← HB.out.cell (p := ⟨b, o + k, none⟩) hb] at q1
      have hbs := HBL.out _ (List.getElem_mem hkl)
      have HPK := Lib.hid (HPA.out (bn[k] : Int) wr HB.out)
      have hca : cs[k] = placeP (posI f) bn[k] := by
        have h := HCA.out k hkl
        rw [List.getElem?_eq_getElem hcsl] at h
        exact Option.some.inj h
      rw [placeF_nat f bn[k] (by omega), ← hca] at HPK
      clear hca
      have HQ2 : Hid (q ++ [(cs[k] : Int)] = (cs.map fun (x : Nat) => (x : Int)).take (k + 1)) := by
        show _ = _
        rw [List.take_succ_eq_append_getElem (by rw [List.length_map]; exact hcsl), ← HQ.out, List.getElem_map]
      generalize cs[k] = ck at HPK HQ2
      generalize bn[k] = bk at q1 HPK
      clear hget
      have hb2 : b < wr.heap.size := by omega
      go_wp2_with (first
        | (go_at_call 61; refine HPK.out.mono ?_; rintro e w3 ⟨rfl, hb3⟩; have HB3 := Lib.hid (HB.out.trans (hb3.mono hsz)); have HO3 := Lib.hid (own_below HO.out hb3 (Nat.le_refl _)); have hs3 := HB3.out.size; clear hb3 HB HO)
        | (at_builtin; go_must (refine wpList_app1 rfl (.tmp 27) (.tmp 31) 22 3 rfl Tryz.underlying22 _ 1 8 int_info6 rfl (by decide) w2.heap.size (.slice Ac q.length cc) q.length (q.flatMap intC) rfl (own_below HO3.out ((Below.refl _ w3).alloc (Nat.le_refl _) _) (Nat.le_refl _)) ⟨w3.heap.size, 0, none⟩ 1 (intC ck) rfl rfl (cells_new w3 (intC ck) 3) (intC_oneA ck) (by omega) (by decide) (by simp; omega) ?_); intro g9 cap w9 hown9 hbg9 hbel9 hgrow9))
      have hbn9 := hbel9 w2.heap.size w3 (Nat.le_refl _) ((Below.refl w2.heap.size w3).alloc hs3 (.cells (intC ck).toArray 3))
      have HB9 := Lib.hid (HB3.out.trans hbn9)
      have HO9 : Hid (OwnE 3 intC 1 w9 w2.heap.size (.slice (some ⟨g9, 0, none⟩) (q.length + 1) cap) (q ++ [(ck : Int)])) := OwnE.snoc hown9
      clear hown9 hbel9 hgrow9 hbn9
      go_wp2_with fail
      go_roundg (bn.length - (k + 1))
      case measure => omega
      case rel => exact ⟨k + 1, q ++ [(ck : Int)], some ⟨g9, 0, none⟩, cap, by (show Value.slice _ _ _ = Value.slice _ _ _); rw [List.length_append]; rfl, rfl, by omega, HQ2.out, by rw [List.length_append]; show q.length + 1 ≤ k + 1; omega, by (show OwnE _ _ _ _ _ _ _); rw [List.length_append]; exact HO9.out, HB9.out, by omega⟩
    · obtain rfl : k = bn.length := by omega
      have HQ2 : Hid (q ++ [(lv : Int)] = (cs.map fun (x : Nat) => (x : Int))) := by
        show _ = _
        have h := List.take_succ_eq_append_getElem (l := cs.map fun (x : Nat) => (x : Int)) (i := bn.length) (by rw [List.length_map]; omega)
        have hce : cs[bn.length]'(by omega) = lenI f := by
          have h := HCE.out
          rw [List.getElem?_eq_getElem (by omega)] at h
          exact Option.some.inj h
        rw [List.take_of_length_le (by rw [List.length_map]; omega), ← HQ.out, List.getElem_map, hce, ← hlv.out] at h
        exact h.symm
      have hq1 : q.length + 1 = cs.length := by
        have := congrArg List.length HQ2.out
        rw [List.length_append, List.length_map] at this
        exact this
      have HQ1 := Lib.hid hq1
      have HLK := Lib.hid (HLN.out wr HB.out)
      rw [← hlv.out] at HLK
      have hlv2 : lv ≤ 1000000 := by have := hlv.out; omega
      clear hq1
      go_upto_region 8 with (first
        | (go_at_call 62; refine HLK.out.mono ?_; rintro e w3 ⟨rfl, hb3⟩; have HB3 := Lib.hid (HB.out.trans (hb3.mono hsz)); have HO3 := Lib.hid (own_below HO.out hb3 (Nat.le_refl _)); have hs3 := HB3.out.size; clear hb3 HB HO)
        | (at_builtin; go_must (refine wpList_app1 rfl (.tmp 34) (.tmp 37) 22 3 rfl Tryz.underlying22 _ 1 8 int_info6 rfl (by decide) w2.heap.size (.slice Ac q.length cc) q.length (q.flatMap intC) rfl (own_below HO3.out ((Below.refl _ w3).alloc (Nat.le_refl _) _) (Nat.le_refl _)) ⟨w3.heap.size, 0, none⟩ 1 (intC lv) rfl rfl (cells_new w3 (intC lv) 3) (intC_oneA lv) (by omega) (by decide) (by simp; omega) ?_); intro g9 cap w9 hown9 hbg9 hbel9 hgrow9))
      have hbn9 := hbel9 w2.heap.size w3 (Nat.le_refl _) ((Below.refl w2.heap.size w3).alloc hs3 (.cells (intC lv).toArray 3))
      have HB9 := Lib.hid (HB3.out.trans hbn9)
      have HO9 : Hid (OwnE 3 intC 1 w9 w2.heap.size (.slice (some ⟨g9, 0, none⟩) (q.length + 1) cap) (q ++ [(lv : Int)])) := OwnE.snoc hown9
      rw [HQ2.out, HQ1.out] at HO9
      rw [HQ1.out]
      have HRC := Lib.hid (OwnE.rd (f := intC) (m := 1) (fun _ => rfl) HO9.out)
      have HBW := Lib.hid (HB2.out.trans (HB9.out.mono hz2))
      clear hown9 hbel9 hgrow9 hbn9 HO9 HB9 HB3 HO3 hs3 HQ HQ2 HQ1 HRB HPA HLN hqk hgk hsz HBL HCA HCE hps hpl hbg9 hz2 HB2
      have HRC2 := HRC
      have HPLC := Lib.hid (fun (u : World) (h : Below w9.heap.size w9 u) => blanks_any f _ u (HRD.out u (HBW.out.trans (h.mono HBW.out.size))) (by omega) (by omega))
      go_wp2_with (go_at_call 63; refine (HPLC.out _ (Below.refl _ _)).mono ?_; rintro e w10 ⟨v10, rfl, ho10, hb10⟩)
      have hspl := spF_len f
      have HSP : Hid (spF f = (sqF f).map (·.2)) := rfl
      have HRS := Lib.hid (OwnE.rd boolC_len ho10)
      obtain ⟨As, cs10, hv10⟩ := own_shape ho10
      subst hv10
      have HBX := Lib.hid (HBW.out.trans (hb10.mono HBW.out.size))
      have HRCX := Lib.hid (HRC.out.below hb10 (Nat.le_refl _))
      have HSL := Lib.hid (fun (p q : Nat) (u : World) (h : Below w10.heap.size w10 u) (hpq : p ≤ q) (hq : q ≤ lenI f) => islice_any f _ p q u (HRD.out u (HBX.out.trans (h.mono HBX.out.size))) (by omega) (by omega) hpq hq)
      have HLS := Lib.hid (fun p q => slI_len f 0 p q)
      have HLW : Hid (∀ p q, lenI (slI f 0 p q) ≤ lenI f) := fun p q => by
        have h1 := posI_len (slI f 0 p q)
        rw [posI_sl, List.length_drop, List.length_take] at h1
        have h2 := posI_len f
        omega
      have HSA : Hid (∀ p t, t ≤ lenI f → (plI (slI f 0 p t)).any (fun c => !spcB c) = true → ∃ x y, sgF (sqF f) p t = [(x, y)] ∧ SegAt (spF f) p t x y) := fun p t ht ha => segAt f p t ht ha
      clear ho10 hb10 HPLC HRC HBW HRD
      clear HSP
      generalize spF f = S at HRS hspl HSA
      generalize lenI f = n at hl hspl HCO HSL HLW hlv HSA
      have HSPL := Lib.hid hspl
      clear hspl
      have hz10 := HBX.out.size
      obtain ⟨wo, HWO⟩ : ∃ wo, Hid (wo = w10) := ⟨w10, rfl⟩
      go_loopg [9, 10, 12, 13, 14, 15, 16, 17, 43] cs.length (fun gk ov fv tv pv sv lv hv rv jv wr => ∃ (k p : Nat) (q : List (Nat × Nat)) (Ac : Option Addr) (cc : Nat), ov = .slice Ac q.length cc ∧ fv = .int .i64 p ∧ jv = .int .i64 k ∧ k ≤ cs.length ∧ Hid (p = (0 :: cs).getD k 0) ∧ Hid (q = rngF (sqF f) 0 (cs.take k)) ∧ q.length ≤ k ∧ Hid (OwnE 54 rangeC 2 wr w10.heap.size (.slice Ac q.length cc) q) ∧ Hid (Below w10.heap.size w10 wr) ∧ cs.length - k ≤ gk)
      case atStart => exact ⟨0, 0, [], none, 0, rfl, rfl, rfl, Nat.zero_le _, rfl, by (show _ = _); rw [List.take_zero]; rfl, by simp, OwnE.nil, Below.refl _ _, by omega⟩
      case round =>
        clear HWO
        obtain ⟨k, p, q, Ac, cc, rfl, rfl, rfl, hk, HP, HQ, hqk, HO, HB, hgk⟩ := hrel
        have hsz := HB.out.size
        by_cases hkl : k < cs.length
        · have hki : (k : Int) < (cs.length : Int) := by omega
          have hk0 : (0 : Int) ≤ (k : Int) := by omega
          obtain ⟨hpt, htn⟩ := AscF.at_ k hkl HCO.out
          rw [← HP.out] at hpt
          have HTK := Lib.hid (rngF_take (sqF f) cs 0 k hkl)
          rw [← HP.out, ← HQ.out] at HTK
          have HGT : Hid ((0 :: cs).getD (k + 1) 0 = cs[k]) := by
            show _ = _
            rw [List.getD_cons_succ, List.getD_eq_getElem?_getD, List.getElem?_eq_getElem hkl]
            rfl
          obtain ⟨b, o, hA, hb, q1⟩ := rd_one HRCX.out k _ _ (show (cs.map fun (x : Nat) => (x : Int))[k]? = some (cs[k] : Int) by rw [List.getElem?_map, List.getElem?_eq_getElem hkl]; rfl) rfl
          injection hA with hA
          injection hA with hA1 hA2 _
          subst hA1 hA2
          rw [← HB.out.cell (p := ⟨g9, 0 + k, none⟩) hb, Nat.zero_add] at q1
          have hb2 : g9 < wr.heap.size := by omega
          generalize cs[k] = t at hpt htn HTK HGT q1
          have ht2 : t ≤ 1000000 := by omega
          have HSK := Lib.hid (HSL.out p t wr HB.out hpt (by omega))
          have hgl := HLS.out p t
          have hgw := HLW.out p t
          have HST := Lib.hid (HSA.out p t (by omega))
          have HNO := Lib.hid (segNo f p t)
          generalize slI f 0 p t = g at HSK hgl hgw HST HNO
          have HPG := Lib.hid (fun (v : Value) (u : World) (h : RdT u v g) => iplain_any g v u h (by omega) (by omega))
          have hgs := plS_size g
          have hgp := plI_len g
          have HGL : Hid ((plS g).data.toList = plI g) := by show (plI g).toArray.toList = _; simp
          have HTR := Lib.hid (fun (u : World) => trim_any (plS g) u (by unfold maxLen; omega))
          rw [HGL.out] at HTR
          generalize plI g = gl at HTR HST HNO
          generalize plS g = gs at HPG HTR
          clear hgs hgp HGL
          by_cases ha : gl.any (fun c => !spcB c) = true
          · obtain ⟨x, y, hsg, hat⟩ := HST.out ha
            rw [hsg] at HTK
            have HAT := Lib.hid hat
            have hpx := hat.px
            have hxy := hat.xy
            have hyt := hat.yq
            clear hsg hat HST HNO
            go_upto_region 17 with (first
              | (go_at_call 47; refine HSK.out.mono ?_; rintro e w3 ⟨v3, rfl, ho3, hb3⟩; obtain ⟨A3, c3, hv3⟩ := own_shape ho3; subst hv3; have HB3 := Lib.hid (HB.out.trans (hb3.mono hsz)); have HR3 := Lib.hid (OwnE.rd tkC_three ho3); have HO3 := Lib.hid (own_below HO.out hb3 (Nat.le_refl _)))
              | (go_at_call 60; refine (HPG.out _ _ HR3.out).mono ?_; rintro e w4 ⟨rfl, hb4⟩; have HB4 := Lib.hid (HB3.out.trans (hb4.mono HB3.out.size)); have HO4 := Lib.hid (own_below HO3.out hb4 (Nat.le_refl _)))
              | (go_at_call 64; refine (HTR.out _).mono ?_; rintro e w5 ⟨x9, y9, hT, rfl, rfl⟩; have hx9 := (trim_any_iff hT).2 ha; have hx9i : (x9 : Int) < (y9 : Int) := by omega))
            have HX : Hid ((w4.alloc (.cells #[.int .i64 (p : Int), .int .i64 (t : Int)] 54)).heap[w4.heap.size]? = some (.cells #[.int .i64 (p : Int), .int .i64 (t : Int)] 54)) := heap_alloc_new w4 _
            have HA := Lib.hid ((Below.refl w4.heap.size w4).alloc (Nat.le_refl _) (.cells #[.int .i64 (p : Int), .int .i64 (t : Int)] 54))
            have hz4 := HB4.out.size
            clear hb3 ho3 hb4 HR3 HB3 HO3 HO HB HSK HPG HTR hT hx9 q1 hb hb2
            go_wp2_with fail
            generalize w4.alloc (.cells #[.int .i64 (p : Int), .int .i64 (t : Int)] 54) = w5 at HX HA ⊢
            obtain ⟨r, hr⟩ : ∃ r, Hid (r = w4.heap.size) := ⟨_, rfl⟩
            rw [← hr.out] at HX ⊢
            have hr4 : w4.heap.size ≤ r := Nat.le_of_eq hr.out.symm
            obtain ⟨wo, HWO⟩ : ∃ wo, Hid (wo = w5) := ⟨w5, rfl⟩
            go_loopg [68] (x - p) (fun gk tv wr => ∃ j : Nat, p ≤ j ∧ j ≤ x ∧ Hid (wr.heap[r]? = some (.cells #[.int .i64 (j : Int), .int .i64 (t : Int)] 54)) ∧ Hid (Below w4.heap.size w4 wr) ∧ x - j ≤ gk)
            case atStart => exact ⟨p, Nat.le_refl _, hpx, HX.out, HA.out, by omega⟩
            case round =>
              clear HX HA HWO
              obtain ⟨j, hpj, hjx, HX, HA, hgj⟩ := hrel
              obtain ⟨x0, x1, y0, y1⟩ := box2 HX.out
              have hrl : r < wr.heap.size := (Array.getElem?_eq_some_iff.1 HX.out).1
              have HBJ := HB4.out.trans (HA.out.mono hz4)
              have hj0 : (0 : Int) ≤ (j : Int) := by omega
              by_cases hj : j < x
              · have hS := HAT.out.lead j hpj hj
                have hjl : (j : Int) < (S.length : Int) := by have := (List.getElem?_eq_some_iff.1 hS).1; omega
                obtain ⟨bs, os, hAs, hbs, q3⟩ := rd_one HRS.out j true _ hS rfl
                subst hAs
                rw [← HBJ.cell (p := ⟨bs, os + j, none⟩) hbs] at q3
                clear hS HBJ hbs
                go_wp2_with fail
                have HX2 : Hid ((wr.setCell ⟨r, 0, none⟩ (.int .i64 ((j : Int) + 1))).heap[r]? = some (.cells #[.int .i64 ((j + 1 : Nat) : Int), .int .i64 (t : Int)] 54)) := set_rw1 HX.out 0 _
                have HA2 := Lib.hid (HA.out.setCell (p := ⟨r, 0, none⟩) hr4 (.int .i64 ((j : Int) + 1)))
                go_roundg (x - (j + 1))
                case measure => omega
                case rel => exact ⟨j + 1, by omega, by omega, HX2.out, HA2.out, by omega⟩
              · obtain rfl : j = x := by omega
                have hS := HAT.out.atx
                have hjl : (j : Int) < (S.length : Int) := by have := (List.getElem?_eq_some_iff.1 hS).1; omega
                obtain ⟨bs, os, hAs, hbs, q3⟩ := rd_one HRS.out j false _ hS rfl
                subst hAs
                rw [← HBJ.cell (p := ⟨bs, os + j, none⟩) hbs] at q3
                clear hS HBJ hbs
                go_wp2_with fail
                clear q3 x0 x1 y0 y1 hrl
                obtain ⟨wo, HWO⟩ : ∃ wo, Hid (wo = wr) := ⟨wr, rfl⟩
                go_loopg [77] (t - y) (fun gk tv wr => ∃ m : Nat, y ≤ m + 1 ∧ m + 1 ≤ t ∧ Hid (wr.heap[r]? = some (.cells #[.int .i64 (j : Int), .int .i64 ((m : Int) + 1)] 54)) ∧ Hid (Below w4.heap.size w4 wr) ∧ m + 1 - y ≤ gk)
                case atStart => exact ⟨t - 1, by omega, by omega, by (show _ = _); rw [show ((t - 1 : Nat) : Int) + 1 = (t : Int) by omega]; exact HX.out, HA.out, by omega⟩
                case round =>
                  clear HX HA HWO
                  obtain ⟨m, hym, hmt, HX, HA, hgm⟩ := hrel
                  obtain ⟨x0, x1, y0, y1⟩ := box2 HX.out
                  have hrl : r < wr.heap.size := (Array.getElem?_eq_some_iff.1 HX.out).1
                  have HBJ := HB4.out.trans (HA.out.mono hz4)
                  have hm0 : (0 : Int) ≤ (m : Int) := by omega
                  by_cases hm : y ≤ m
                  · have hS := HAT.out.tail m hm (by omega)
                    have hml : (m : Int) < (S.length : Int) := by have := (List.getElem?_eq_some_iff.1 hS).1; omega
                    obtain ⟨bs, os, hAs, hbs, q3⟩ := rd_one HRS.out m true _ hS rfl
                    try (injection hAs with hAs; injection hAs with h1 h2 _; subst h1 h2)
                    rw [← HBJ.cell (p := ⟨_, _ + m, none⟩) hbs] at q3
                    clear hS HBJ hbs
                    go_wp2_with fail
                    have HX2 : Hid ((wr.setCell ⟨r, 1, none⟩ (.int .i64 (m : Int))).heap[r]? = some (.cells #[.int .i64 (j : Int), .int .i64 (((m - 1 : Nat) : Int) + 1)] 54)) := by
                      show _ = _
                      rw [show ((m - 1 : Nat) : Int) + 1 = (m : Int) by omega]
                      exact set_rw1 HX.out 1 _
                    have HA2 := Lib.hid (HA.out.setCell (p := ⟨r, 1, none⟩) hr4 (.int .i64 (m : Int)))
                    go_roundg (m - y)
                    case measure => omega
                    case rel => exact ⟨m - 1, by omega, by omega, HX2.out, HA2.out, by omega⟩
                  · obtain rfl : y = m + 1 := by omega
                    have hS := HAT.out.aty
                    rw [Nat.add_sub_cancel] at hS
                    have hml : (m : Int) < (S.length : Int) := by have := (List.getElem?_eq_some_iff.1 hS).1; omega
                    obtain ⟨bs, os, hAs, hbs, q3⟩ := rd_one HRS.out m false _ hS rfl
                    try (injection hAs with hAs; injection hAs with h1 h2 _; subst h1 h2)
                    rw [← HBJ.cell (p := ⟨_, _ + m, none⟩) hbs] at q3
                    have HOJ := Lib.hid (World.ownsRow.alloc (own_below HO4.out HA.out (Nat.le_refl _)) (.cells (rangeC (j, m + 1)).toArray 54))
                    have HBJ2 := Lib.hid HBJ
                    have hzj := HBJ.size
                    clear hS HBJ hbs
                    go_wp2_with (at_builtin; go_must (refine wpList_app1 rfl (.tmp 85) (.tmp 87) 72 54 rfl Tryz.underlying72 _ 2 16 range_info rfl (by decide) w10.heap.size (.slice Ac q.length cc) q.length (q.flatMap rangeC) rfl (by exact HOJ.out) ⟨wr.heap.size, 0, none⟩ 1 (rangeC (j, m + 1)) rfl rfl (by exact cells_new _ _ _) (range_one _) (by omega) (by decide) (by simp; omega) ?_); intro g8 cap8 w8 hown8 hbg8 hbel8 hgr8)
                    have HO8 : Hid (OwnE 54 rangeC 2 w8 w10.heap.size (.slice (some ⟨g8, 0, none⟩) (q.length + 1) cap8) (rngF (sqF f) 0 (cs.take (k + 1)))) := by
                      show OwnE _ _ _ _ _ _ _
                      rw [HTK.out]
                      exact OwnE.snoc (f := rangeC) hown8
                    have HB8 := Lib.hid (hbel8 _ _ (Nat.le_refl _) (HBJ2.out.alloc hzj (.cells (rangeC (j, m + 1)).toArray 54)))
                    have HL8 : Hid ((rngF (sqF f) 0 (cs.take (k + 1))).length = q.length + 1) := by
                      show _ = _
                      rw [HTK.out, List.length_append]
                      rfl
                    clear hown8 hbel8 hgr8 q3 x0 x1 y0 y1
                    go_wp2_with fail
                    go_roundg (cs.length - (k + 1))
                    case measure => omega
                    case rel => exact ⟨k + 1, t, _, some ⟨g8, 0, none⟩, cap8, by rw [HL8.out], rfl, rfl, by omega, HGT.out.symm, rfl, by rw [HL8.out]; omega, by (show OwnE _ _ _ _ _ _ _); rw [HL8.out]; exact HO8.out, HB8.out, by omega⟩
          · have HT2 : Hid (rngF (sqF f) 0 (cs.take (k + 1)) = q) := by
              show _ = _
              rw [HTK.out, HNO.out ha, List.append_nil]
            clear HST HNO
            go_wp2_with (first
              | (go_at_call 47; refine HSK.out.mono ?_; rintro e w3 ⟨v3, rfl, ho3, hb3⟩; obtain ⟨A3, c3, hv3⟩ := own_shape ho3; subst hv3; have HB3 := Lib.hid (HB.out.trans (hb3.mono hsz)); have HR3 := Lib.hid (OwnE.rd tkC_three ho3); have HO3 := Lib.hid (own_below HO.out hb3 (Nat.le_refl _)))
              | (go_at_call 60; refine (HPG.out _ _ HR3.out).mono ?_; rintro e w4 ⟨rfl, hb4⟩; have HB4 := Lib.hid (HB3.out.trans (hb4.mono HB3.out.size)); have HO4 := Lib.hid (own_below HO3.out hb4 (Nat.le_refl _)))
              | (go_at_call 64; refine (HTR.out _).mono ?_; rintro e w5 ⟨x9, y9, hT, rfl, rfl⟩; have hx9 : ¬ x9 < y9 := fun h => ha ((trim_any_iff hT).1 h); have hx9i : ¬ (x9 : Int) < (y9 : Int) := by omega))
            go_roundg (cs.length - (k + 1))
            case measure => omega
            case rel => exact ⟨k + 1, t, q, Ac, cc, rfl, rfl, rfl, by omega, HGT.out.symm, HT2.out.symm, by omega, HO4.out, HB4.out, by omega⟩
        · obtain rfl : k = cs.length := by omega
          rw [List.take_length, ← HGO.out] at HQ
          go_wp2_with fail
          rw [HRR.out, ← HQ.out]
          exact ⟨_, rfl, own_base HO.out hz10, HBX.out.trans (HB.out.mono hz10)⟩

end Go.Proofs.YtfkojnofbpdjdaaGreatDoor

namespace Go.Proofs.YtfkojnofbpdjdaaGreatDoor
set_option maxRecDepth 100000
open Go.RowKit

def ascL : Nat → List (Nat × Nat) → Nat → Prop
  | _, [], _ => True
  | at_, r :: rl, n => at_ ≤ r.1 ∧ r.1 ≤ r.2 ∧ r.2 ≤ n ∧ ascL r.2 rl n
theorem rdR_at {w : World} {A : Option Addr} {n c : Nat} {l : List (Nat × Nat)} (h : RdE rangeC 2 w (.slice A n c) l) (k : Nat) (hk : k < l.length) : ∃ b o, A = some ⟨b, o, none⟩ ∧ b < w.heap.size ∧ w.cell? ⟨b, o + k * 2, none⟩ = some (.int .i64 l[k].1) ∧ w.cell? ⟨b, o + k * 2 + 1, none⟩ = some (.int .i64 l[k].2) := by
  obtain ⟨b, o, hA, hb, hx⟩ := RdE.cells h (by omega)
  exact ⟨b, o, hA, hb, hx k _ 0 _ (List.getElem?_eq_getElem hk) rfl, hx k _ 1 _ (List.getElem?_eq_getElem hk) rfl⟩

set_option maxRecDepth 100000 in
set_option maxHeartbeats 4000000 in
theorem asc_any (rl : List (Nat × Nat)) (n : Nat) (v : Value) (w : World) (h : RdE rangeC 2 w v rl) (hl : rl.length ≤ 100000) (hn : n ≤ 1000000) (ha : ascL 0 rl n) :
    Calls Tryz.prog 66 #[v, .int .i64 n] w (fun e w' => e = .returned (.bool true) ∧ Below w.heap.size w w') := by
  obtain ⟨R, HRR⟩ : ∃ R : Ending → World → Prop, Hid (R = fun e w' => e = .returned (.bool true) ∧ Below w.heap.size w w') := ⟨_, rfl⟩
  rw [← HRR.out]
  obtain ⟨A, c, rfl, _, _⟩ := h.shape
  have HF := Lib.hid h
  have HA := Lib.hid ha
  clear h ha
  go_enter Tryz.func66, Tryz.ntmps66
  go_wp2_with fail
  go_loopg [5, 10] rl.length (fun gk av iv wr => ∃ k a : Nat, av = .int .i64 a ∧ iv = .int .i64 k ∧ k ≤ rl.length ∧ a ≤ 1000000 ∧ Hid (ascL a (rl.drop k) n) ∧ Hid (Below w.heap.size w wr) ∧ rl.length - k ≤ gk)
  case atStart => exact ⟨0, 0, rfl, rfl, Nat.zero_le _, Nat.zero_le _, HA.out, Below.refl _ _, Nat.le_refl _⟩
  case round =>
    obtain ⟨k, a, rfl, rfl, hk, haa, HS, HB, hgk⟩ := hrel
    by_cases hlt : k < rl.length
    · obtain ⟨b, o, rfl, hb, c0, c1⟩ := rdR_at (HF.out.below HB.out (Nat.le_refl _)) k hlt
      have hs := HS.out
      rw [List.drop_eq_getElem_cons hlt] at hs
      generalize rl[k] = x at *
      obtain ⟨x1, x2⟩ := x
      obtain ⟨s1, s2, s3, s4⟩ := hs
      simp only at c0 c1 s1 s2 s3 s4
      have HS4 := Lib.hid s4
      have t1 : ¬ ((x1 : Int) < (a : Int)) := by omega
      have t2 : ¬ ((x2 : Int) < (x1 : Int)) := by omega
      have t3 : ¬ ((n : Int) < (x2 : Int)) := by omega
      have HB2 := Lib.hid (HB.out.alloc HB.out.size (.cells #[.int .i64 x1, .int .i64 x2] 54))
      clear s4
      go_wp2_with fail
      go_roundg (rl.length - (k + 1))
      case measure => omega
      case rel => exact ⟨k + 1, x2, rfl, rfl, hlt, by omega, HS4.out, HB2.out, Nat.le_refl _⟩
    · obtain rfl : k = rl.length := by omega
      go_wp2_with fail
      first | go_ret | skip
      rw [HRR.out]
      exact ⟨rfl, HB.out⟩

end Go.Proofs.YtfkojnofbpdjdaaGreatDoor

namespace Go.Proofs.YtfkojnofbpdjdaaGreatDoor
set_option maxRecDepth 100000
open Go.RowKit

theorem norm_app_norm (a b : List Tk) : normL (normL a ++ b) = normL (expF a ++ expF b) := by rw [normL_app_exp, expF_norm]
theorem lenI_norm (a : List Tk) : lenI (normL a) = lenI a := by rw [← expF_len, expF_norm, expF_len]
theorem len_norm (a : List Tk) : (normL a).length ≤ lenI a := by
  have := len_wd (normL a) (normal_wd _ (normL_normal a))
  rwa [lenI_norm] at this
theorem lenI_appD (a b : List Tk) : lenI (a ++ b) = lenI a + lenI b := by rw [← expF_len, expF_app, List.length_append, expF_len, expF_len]
theorem lenI_exp (a : List Tk) (h : expF a = a) : lenI a = a.length := by rw [← expF_len, h]
theorem exp_part (f : List Tk) (l : List Tk) (h : ∀ y ∈ l, y ∈ expF f) : expF l = l := expF_id l fun y hy => expF_ones f y (h y hy)
theorem repU_nil (u : List Tk) (a : Nat) (tg : List (List Tk)) : repU u a [] tg = u.drop a := by cases tg <;> rfl
theorem mem_td {u : List Tk} {p q : Nat} {y : Tk} (h : y ∈ (u.take p).drop q) : y ∈ u := List.mem_of_mem_take (List.mem_of_mem_drop h)

set_option maxRecDepth 100000 in
set_option maxHeartbeats 8000000 in
theorem replaced_any (f : List Tk) (rl : List (Nat × Nat)) (tg : List (List Tk)) (v vr vt : Value) (w : World) (h1 : RdT w v f) (h2 : RdE rangeC 2 w vr rl) (h3 : RdTT w vt tg) (hl : rl.length = tg.length) (hlr : rl.length ≤ 100000) (hfl : f.length ≤ 100000) (hlf : lenI f ≤ 1000000)
    (ha : ascL 0 rl (lenI f)) (htot : (repU (expF f) 0 rl tg).length ≤ 100000) (htk : ∀ t ∈ tg, Normal t) :
    Calls Tryz.prog 71 #[v, vr, vt] w (RetOwn 31 tkC 3 w (normL (repU (expF f) 0 rl tg))) := by
  obtain ⟨R, HRR⟩ : ∃ R, Hid (R = RetOwn 31 tkC 3 w (normL (repU (expF f) 0 rl tg))) := ⟨_, rfl⟩
  rw [← HRR.out]
  obtain ⟨A, c, rfl, _, _⟩ := h1.shape
  obtain ⟨A2, c2, rfl, _, _⟩ := h2.shape
  obtain ⟨A3, tc, rfl, h30⟩ := h3
  have H3 : Hid (RdTT w (.slice A3 tg.length tc) tg) := ⟨A3, tc, rfl, h30⟩
  have H1 := Lib.hid h1
  have H2 := Lib.hid h2
  have HA := Lib.hid ha
  have HTOT := Lib.hid htot
  have HTK := Lib.hid htk
  have HLL := Lib.hid hl
  have HLF := Lib.hid hlf
  have CS := Lib.hid (fun (p q : Nat) (w' : World) (h : RdT w' (.slice A f.length c) f) (hpq : p ≤ q) (hq : q ≤ lenI f) => islice_any f _ p q w' h (by omega) (by omega) hpq hq)
  have CL := Lib.hid (fun (w' : World) (h : RdT w' (.slice A f.length c) f) => ilength_any f _ w' h (by omega) (by omega))
  clear h1 h2 h30 ha htot htk hl hlf
  go_enter Tryz.func71, Tryz.ntmps71
  go_wp2_with fail
  go_loopg [7, 8, 17] rl.length (fun gk ov av iv wr => ∃ (k a : Nat) (E : List Tk), av = .int .i64 a ∧ iv = .int .i64 k ∧ k ≤ rl.length ∧ a ≤ lenI f ∧ Hid (ascL a (rl.drop k) (lenI f)) ∧ Hid (expF E = E) ∧ Hid (E ++ repU (expF f) a (rl.drop k) (tg.drop k) = repU (expF f) 0 rl tg) ∧ Hid (OwnT 31 wr w.heap.size ov (normL E)) ∧ Hid (Below w.heap.size w wr) ∧ rl.length - k ≤ gk)
  case atStart => exact ⟨0, 0, [], rfl, rfl, Nat.zero_le _, Nat.zero_le _, HA.out, rfl, rfl, OwnE.nil, Below.refl _ _, Nat.le_refl _⟩
  case round =>
    obtain ⟨k, a, E, rfl, rfl, hk, haa, HS, HEE, HE, HO, HB, hgk⟩ := hrel
    have htl : E.length ≤ 100000 := by
      have := congrArg List.length HE.out
      rw [List.length_append] at this
      have := HTOT.out
      omega
    have hlE : lenI E = E.length := lenI_exp E HEE.out
    obtain ⟨Ao, co, rfl⟩ := own_shape HO.out
    have HRO := Lib.hid (OwnE.rd tkC_three HO.out)
    have hnE := len_norm E
    by_cases hlt : k < rl.length
    · obtain ⟨b, o, rfl, hb, c0, c1⟩ := rdR_at (H2.out.below HB.out (Nat.le_refl _)) k hlt
      have hltt : k < tg.length := by rw [← HLL.out]; exact hlt
      obtain ⟨tb, tof, At, ct, hA3, htb0, t00, ht00⟩ := RdTT.at_ H3.out k hltt
      subst hA3
      have hs := HS.out
      have he := HE.out
      rw [List.drop_eq_getElem_cons hlt] at hs he
      rw [List.drop_eq_getElem_cons hltt, repU] at he
      have htkn := HTK.out _ (List.getElem_mem hltt)
      generalize rl[k] = x at *
      generalize tg[k] = tk at *
      obtain ⟨x1, x2⟩ := x
      obtain ⟨s1, s2, s3, s4⟩ := hs
      simp only at c0 c1 s1 s2 s3 s4 he
      have HS4 := Lib.hid s4
      have hx1 : x1 ≤ lenI f := Nat.le_trans s2 s3
      have hx1i : (x1 : Int) ≤ 1000000 := by have := HLF.out; omega
      have hx2i : (x2 : Int) ≤ 1000000 := by have := HLF.out; omega
      obtain ⟨pc, hpc⟩ : ∃ pc, Hid (slI f 0 a x1 = pc) := ⟨_, rfl⟩
      have hpe : expF pc = ((expF f).take x1).drop a := by rw [← hpc.out, expF_sl, Nat.sub_zero, Nat.sub_zero]
      have hpw : pc.length ≤ lenI pc := by rw [← hpc.out]; exact len_wd _ (slI_wd a x1 f 0)
      have hpl : lenI pc = (((expF f).take x1).drop a).length := by rw [← expF_len, hpe]
      have hTL := congrArg List.length he
      simp only [List.length_append] at hTL
      have htt := HTOT.out
      have htw : lenI tk = (expF tk).length := (expF_len tk).symm
      have htw2 := len_wd tk (normal_wd _ htkn)
      obtain ⟨E1, hE1⟩ : ∃ E1, Hid (E1 = E ++ ((expF f).take x1).drop a) := ⟨_, rfl⟩
      obtain ⟨E2, hE2⟩ : ∃ E2, Hid (E2 = E1 ++ expF tk) := ⟨_, rfl⟩
      have hE1e : expF E1 = E1 := by rw [hE1.out, expF_app, HEE.out, exp_part f _ fun y hy => mem_td hy]
      have HE2e : Hid (expF E2 = E2) := by show _ = _; rw [hE2.out, expF_app, hE1e, expF_id (expF tk) (expF_ones tk)]
      have hN1 : normL (normL E ++ pc) = normL E1 := by rw [norm_app_norm, HEE.out, hpe, hE1.out]
      have hN2 : normL (normL E1 ++ tk) = normL E2 := by rw [norm_app_norm, hE1e, hE2.out]
      have hl1 : lenI E1 = E.length + (((expF f).take x1).drop a).length := by rw [lenI_exp E1 hE1e, hE1.out, List.length_append]
      have hnE1 := len_norm E1
      have HEN : Hid (E2 ++ repU (expF f) x2 (rl.drop (k + 1)) (tg.drop (k + 1)) = repU (expF f) 0 rl tg) := by
        show _ = _
        rw [← he, hE2.out, hE1.out]
        simp
      have HC1a := Lib.hid (fun (W : World) (ha : RdT W (.slice Ao (normL E).length co) (normL E)) (Ap : Option Addr) (cp : Nat) (hb : RdT W (.slice Ap pc.length cp) pc) => concat_any (normL E) pc Ao Ap co cp W ha hb (by omega) (by rw [lenI_appD, lenI_norm]; omega))
      have HC2 := Lib.hid (fun (A5 : Option Addr) (c5 : Nat) (W : World) (ha : RdT W (.slice A5 (normL E1).length c5) (normL E1)) (hb : RdT W (.slice At tk.length ct) tk) => concat_any (normL E1) tk A5 At c5 ct W ha hb (by omega) (by rw [lenI_appD, lenI_norm]; omega))
      rw [hN1] at HC1a
      rw [hN2] at HC2
      have HBA := Lib.hid (HB.out.alloc HB.out.size (.cells #[.int .i64 x1, .int .i64 x2] 54))
      have hkt : (k : Int) < (tg.length : Int) := by omega
      have CS1 := Lib.hid (fun (w' : World) (h : RdT w' (.slice A f.length c) f) => CS.out a x1 w' h s1 hx1)
      rw [hpc.out] at CS1
      have ht0 := Lib.hid (fun (W : World) (hW : Below w.heap.size w W) => (hW.cell (p := ⟨tb, tof + k, none⟩) htb0).trans t00)
      have hal := (Below.refl wr.heap.size wr).alloc (Nat.le_refl _) (.cells #[.int .i64 x1, .int .i64 x2] 54)
      have HROA := Lib.hid (RdE.below HRO.out hal (Nat.le_refl _))
      have HTKW := Lib.hid (fun (W : World) (hW : Below w.heap.size w W) => RdE.below ht00 hW (Nat.le_refl _))
      clear he s4 hpe hpw hpl hTL htt htw htw2 hE1e hN1 hN2 hl1 hnE1 htkn t00 ht00 hE1 hE2 hnE hlE htl hal
      go_wp2_with (go_at_call 47; refine (CS1.out _ (by exact RdE.below H1.out HBA.out (Nat.le_refl _))).mono ?_; rintro e w1 ⟨vp, rfl, hop, hbp⟩; obtain ⟨Ap, cp, rfl⟩ := own_shape hop; have HPC := Lib.hid (OwnE.rd tkC_three hop); have HBS := Lib.hid (HBA.out.trans (hbp.mono HBA.out.size)); have HRO1 := Lib.hid (RdE.below HROA.out hbp (Nat.le_refl _)); have r0 : w1.cell? ⟨wr.heap.size, 0, none⟩ = some (.int .i64 x1) := (hbp.cell (by simp)).trans (by go_simp); have r1 : w1.cell? ⟨wr.heap.size, 1, none⟩ = some (.int .i64 x2) := (hbp.cell (by simp)).trans (by go_simp); have hq1 : wr.heap.size < w1.heap.size := Nat.lt_of_lt_of_le (by simp) hbp.size; clear hop hbp)
      refine wp_region_at 9 #[false, false, false, false, false, false, false, false, false] rfl rfl (by kernel_rfl) ?_
      have HBW : Hid (Below w.heap.size w w1.drew) := HBS.out.drew
      have HC1 := Lib.hid (HC1a.out w1.drew HRO1.out Ap cp HPC.out)
      have HTK := Lib.hid (HTKW.out w1.drew HBW.out)
      have t0 := ht0.out w1.drew HBW.out
      have htb : tb < w1.drew.heap.size := Nat.lt_of_lt_of_le htb0 HBW.out.size
      have R0 : Hid (∀ W, Below w1.drew.heap.size w1.drew W → W.cell? ⟨wr.heap.size, 1, none⟩ = some (.int .i64 x2)) := fun W hW => (hW.cell (p := ⟨wr.heap.size, 1, none⟩) hq1).trans r1
      clear HC1a ht0 HTKW
      generalize w1.drew = W0 at *
      refine wpAny_at (i := 0) (v := .slice Ao (normL E).length co) (some 30) rfl rfl (by kernel_rfl) (by kernel_rfl) (by kernel_rfl) (fun _ _ _ h => h) (by kernel_rfl) (fun _ => ex_move _ _ rfl (by kernel_rfl)) ?_
      simp only [Act.put, List.setIfInBounds_toArray, List.set_cons_zero, List.set_cons_succ]
      refine wpAny_at (i := 1) (v := .slice Ap pc.length cp) (some 31) rfl rfl (by kernel_rfl) (by kernel_rfl) (by kernel_rfl) (fun _ _ _ h => h) (by kernel_rfl) (fun _ => ex_move _ _ rfl (by kernel_rfl)) ?_
      simp only [Act.put, List.setIfInBounds_toArray, List.set_cons_zero, List.set_cons_succ]
      refine wpAny_at (i := 3) (v := .slice (some ⟨tb, tof, none⟩) tg.length tc) (some 33) rfl rfl (by kernel_rfl) (by kernel_rfl) (by kernel_rfl) (fun _ _ _ h => h) (by kernel_rfl) (fun _ => ex_move _ _ rfl (by kernel_rfl)) ?_
      simp only [Act.put, List.setIfInBounds_toArray, List.set_cons_zero, List.set_cons_succ]
      refine wpAny_at (i := 4) (v := .int .i64 (k : Int)) (some 34) rfl rfl (by kernel_rfl) (by kernel_rfl) (by kernel_rfl) (fun _ _ _ h => h) (by kernel_rfl) (fun _ => ex_move _ _ rfl (by kernel_rfl)) ?_
      simp only [Act.put, List.setIfInBounds_toArray, List.set_cons_zero, List.set_cons_succ]
      refine wpAny_at (i := 5) (v := .pointer (some ⟨tb, tof + k, none⟩)) (some 35) rfl rfl (by kernel_rfl) (by kernel_rfl) (by kernel_rfl) (fun _ _ _ h => h) (by kernel_rfl) (fun _ => ex_indexAddr 48 _ _ (.slice (some ⟨tb, tof, none⟩) tg.length tc) (.int .i64 (k : Int)) _ rfl (by kernel_rfl) (by kernel_rfl) (by go_simp)) ?_
      simp only [Act.put, List.setIfInBounds_toArray, List.set_cons_zero, List.set_cons_succ]
      refine wpAny_two 2 6 (by kernel_rfl) rfl rfl (by kernel_rfl) (by kernel_rfl) ?_ ?_
      refine wp_of_call (ex_call2 (.tmp 30) (.tmp 31) _ (.slice Ao (normL E).length co) (.slice Ap pc.length cp) rfl (by kernel_rfl) (by kernel_rfl) (enters_of Tryz.func113 (by kernel_rfl) rfl _ _)) (HC1.out) ?_
      rintro e W1 ⟨v, rfl, ho, hb⟩
      obtain ⟨A5, c5, rfl⟩ := own_shape ho
      have HO5 := Lib.hid (OwnE.rd tkC_three ho)
      have HB5 := Lib.hid (HBW.out.trans (hb.mono HBW.out.size))
      have HT5 := Lib.hid (RdE.below HTK.out hb (Nat.le_refl _))
      have t1 := (hb.cell (p := ⟨tb, tof + k, none⟩) htb).trans t0
      have HBC5 := Lib.hid hb
      clear ho hb
      refine ⟨.slice A5 (normL E1).length c5, rfl, ?_⟩
      simp only [Act.put, List.setIfInBounds_toArray, List.set_cons_zero, List.set_cons_succ]
      refine wpAny_only 6 (by kernel_rfl) rfl (by kernel_rfl) ?_
      refine wp_of_val (v := .slice At tk.length ct) (ex_load 24 _ (.pointer (some ⟨tb, tof + k, none⟩)) _ rfl (by kernel_rfl) (ldT_items t1)) ?_
      simp only [Act.put, List.setIfInBounds_toArray, List.set_cons_zero, List.set_cons_succ]
      refine wpAny_only 7 (by kernel_rfl) rfl (by kernel_rfl) ?_
      refine wp_of_call (ex_call2 (.tmp 32) (.tmp 36) _ (.slice A5 (normL E1).length c5) (.slice At tk.length ct) rfl (by kernel_rfl) (by kernel_rfl) (enters_of Tryz.func113 (by kernel_rfl) rfl _ _)) (HC2.out A5 c5 W1 HO5.out HT5.out) ?_
      rintro e W2 ⟨v, rfl, ho, hb⟩
      obtain ⟨A6, c6, rfl⟩ := own_shape ho
      have HO6 := Lib.hid (own_base ho HB5.out.size)
      have HB6 := Lib.hid (HB5.out.trans (hb.mono HB5.out.size))
      have y1 := R0.out W2 (HBC5.out.trans (hb.mono HBC5.out.size))
      clear ho hb
      refine ⟨.slice A6 (normL E2).length c6, rfl, ?_⟩
      simp only [Act.put, List.setIfInBounds_toArray, List.set_cons_zero, List.set_cons_succ]
      refine wpAny_at (i := 8) (v := .slice A6 (normL E2).length c6) (some 7) rfl rfl (by kernel_rfl) (by kernel_rfl) (by kernel_rfl) (fun _ _ _ h => h) (by kernel_rfl) (fun _ => ex_assign _ _ rfl (by kernel_rfl)) ?_
      simp only [Act.put, List.setIfInBounds_toArray, List.set_cons_zero, List.set_cons_succ]
      refine wpAny_done (by kernel_rfl) ?_ _
      rotate_left 1
      refine wp_of_val (v := .slice At tk.length ct) (ex_load 24 _ (.pointer (some ⟨tb, tof + k, none⟩)) _ rfl (by kernel_rfl) (ldT_items t0)) ?_
      simp only [Act.put, List.setIfInBounds_toArray, List.set_cons_zero, List.set_cons_succ]
      refine wpAny_only 2 (by kernel_rfl) rfl (by kernel_rfl) ?_
      refine wp_of_call (ex_call2 (.tmp 30) (.tmp 31) _ (.slice Ao (normL E).length co) (.slice Ap pc.length cp) rfl (by kernel_rfl) (by kernel_rfl) (enters_of Tryz.func113 (by kernel_rfl) rfl _ _)) (HC1.out) ?_
      rintro e W1 ⟨v, rfl, ho, hb⟩
      obtain ⟨A5, c5, rfl⟩ := own_shape ho
      have HO5 := Lib.hid (OwnE.rd tkC_three ho)
      have HB5 := Lib.hid (HBW.out.trans (hb.mono HBW.out.size))
      have HT5 := Lib.hid (RdE.below HTK.out hb (Nat.le_refl _))
      have t1 := (hb.cell (p := ⟨tb, tof + k, none⟩) htb).trans t0
      have HBC5 := Lib.hid hb
      clear ho hb
      refine ⟨.slice A5 (normL E1).length c5, rfl, ?_⟩
      simp only [Act.put, List.setIfInBounds_toArray, List.set_cons_zero, List.set_cons_succ]
      refine wpAny_only 7 (by kernel_rfl) rfl (by kernel_rfl) ?_
      refine wp_of_call (ex_call2 (.tmp 32) (.tmp 36) _ (.slice A5 (normL E1).length c5) (.slice At tk.length ct) rfl (by kernel_rfl) (by kernel_rfl) (enters_of Tryz.func113 (by kernel_rfl) rfl _ _)) (HC2.out A5 c5 W1 HO5.out HT5.out) ?_
      rintro e W2 ⟨v, rfl, ho, hb⟩
      obtain ⟨A6, c6, rfl⟩ := own_shape ho
      have HO6 := Lib.hid (own_base ho HB5.out.size)
      have HB6 := Lib.hid (HB5.out.trans (hb.mono HB5.out.size))
      have y1 := R0.out W2 (HBC5.out.trans (hb.mono HBC5.out.size))
      clear ho hb
      refine ⟨.slice A6 (normL E2).length c6, rfl, ?_⟩
      simp only [Act.put, List.setIfInBounds_toArray, List.set_cons_zero, List.set_cons_succ]
      refine wpAny_at (i := 8) (v := .slice A6 (normL E2).length c6) (some 7) rfl rfl (by kernel_rfl) (by kernel_rfl) (by kernel_rfl) (fun _ _ _ h => h) (by kernel_rfl) (fun _ => ex_assign _ _ rfl (by kernel_rfl)) ?_
      simp only [Act.put, List.setIfInBounds_toArray, List.set_cons_zero, List.set_cons_succ]
      refine wpAny_done (by kernel_rfl) ?_ _
      all_goals (
        go_wp2_with fail
        go_roundg (rl.length - (k + 1))
        case measure => omega
        case rel => exact ⟨k + 1, x2, E2, rfl, rfl, hlt, s3, HS4.out, HE2e.out, HEN.out, HO6.out, HB6.out, Nat.le_refl _⟩)
    · obtain rfl : k = rl.length := by omega
      have he := HE.out
      rw [List.drop_length, show tg.drop rl.length = [] by rw [HLL.out, List.drop_length], repU_nil] at he
      obtain ⟨pc, hpc⟩ : ∃ pc, Hid (slI f 0 a (lenI f) = pc) := ⟨_, rfl⟩
      have hpe : expF pc = (expF f).drop a := by rw [← hpc.out, expF_sl, Nat.sub_zero, Nat.sub_zero, List.take_of_length_le (by rw [expF_len]; exact Nat.le_refl _)]
      have hpw : pc.length ≤ lenI pc := by rw [← hpc.out]; exact len_wd _ (slI_wd a (lenI f) f 0)
      have hpl : lenI pc = ((expF f).drop a).length := by rw [← expF_len, hpe]
      have hTL := congrArg List.length he
      rw [List.length_append] at hTL
      have htt := HTOT.out
      have hN1 : normL (normL E ++ pc) = normL (repU (expF f) 0 rl tg) := by rw [norm_app_norm, HEE.out, hpe, he]
      have HC1 := Lib.hid (fun (W : World) (ha : RdT W (.slice Ao (normL E).length co) (normL E)) (Ap : Option Addr) (cp : Nat) (hb : RdT W (.slice Ap pc.length cp) pc) => concat_any (normL E) pc Ao Ap co cp W ha hb (by omega) (by rw [lenI_appD, lenI_norm]; omega))
      rw [hN1] at HC1
      have CS1 := Lib.hid (fun (w' : World) (h : RdT w' (.slice A f.length c) f) => CS.out a (lenI f) w' h haa (Nat.le_refl _))
      rw [hpc.out] at CS1
      clear he hpe hpw hpl hTL htt hN1 hnE hlE htl
      generalize lenI f = lf at CL CS1 haa HLF ⊢
      go_wp2_with (first
        | (go_at_call 62; refine (CL.out _ (by exact RdE.below H1.out HB.out (Nat.le_refl _))).mono ?_; rintro e w1 ⟨rfl, hb1⟩; have HB1 := Lib.hid (HB.out.trans (hb1.mono HB.out.size)); have HRO1 := Lib.hid (RdE.below HRO.out hb1 (Nat.le_refl _)); clear hb1)
        | (go_at_call 47; refine (CS1.out _ (by exact RdE.below H1.out HB1.out (Nat.le_refl _))).mono ?_; rintro e w2 ⟨vp, rfl, hop, hbp⟩; obtain ⟨Ap, cp, rfl⟩ := own_shape hop; have HPC := Lib.hid (OwnE.rd tkC_three hop); have HB2 := Lib.hid (HB1.out.trans (hbp.mono HB1.out.size)); have HRO2 := Lib.hid (RdE.below HRO1.out hbp (Nat.le_refl _)); clear hop hbp)
        | (go_at_call 113; refine (HC1.out _ (by exact HRO2.out) Ap cp (by exact HPC.out)).mono ?_; rintro e w3 ⟨v3, rfl, ho3, hb3⟩; obtain ⟨A9, c9, rfl⟩ := own_shape ho3; have HO3 := Lib.hid (own_base ho3 HB2.out.size); have HB3 := Lib.hid (HB2.out.trans (hb3.mono HB2.out.size)); clear ho3 hb3))
      first | go_ret | skip
      rw [HRR.out]
      exact ⟨_, rfl, HO3.out, HB3.out⟩

end Go.Proofs.YtfkojnofbpdjdaaGreatDoor

namespace Go.Proofs.YtfkojnofbpdjdaaGreatDoor
set_option maxRecDepth 100000
open Go.RowKit

theorem res_doc2 {fn : Func} {p u : Tmp} (h : fn.results = #[.cell p 41, .tmp u]) (tmps : Array Value) (w : World) (g : Nat) (k : Int) (A : Option Addr) (n c : Nat) (x : Value) (hp : tmps.getD p undef = .pointer (some ⟨g, 0, none⟩)) (hu : tmps.getD u undef = x)
    (c0 : w.cell? ⟨g, 0, none⟩ = some (.int .i64 k)) (c1 : w.cell? ⟨g, 1, none⟩ = some (.slice A n c)) :
    (results fn tmps).run Tryz.prog w = .ok (.tuple #[.agg #[.int .i64 k, .slice A n c], x]) w := by
  rw [results_cell_tmp h, hp, hu]
  go_simp

theorem own_someD {w : World} {B : Nat} {e : TypeId} {size n c : Nat} {A : Option Addr} {xs : List Value} {m : Nat} (h : w.ownsRow B e size (.slice A m c) n xs) (hn : 0 < n) : ∃ bk, A = some ⟨bk, 0, none⟩ ∧ B ≤ bk := by
  rcases h.2 with ⟨_, h0⟩ | ⟨g', cap, cur, hv, hbg, _⟩
  · omega
  · injection hv with hv
    exact ⟨g', hv, hbg⟩
theorem flat_set : ∀ (ps : List Pt) (k : Nat) (hk : k < ps.length) (nb : ByteArray), (ps[k]).un = true → (ps.flatMap ptC).set (k * 3 + 2) (.string nb) = (ps.set k ⟨true, ps[k].key, nb⟩).flatMap ptC
  | [], k, hk, _, _ => by simp at hk
  | p :: ps, 0, hk, nb, hu => by
    simp only [List.getElem_cons_zero] at hu
    simp [ptC, hu]
  | p :: ps, k + 1, hk, nb, hu => by
    have ih := flat_set ps k (by simpa using hk) nb (by simpa using hu)
    rw [List.set_cons_succ, List.flatMap_cons, List.flatMap_cons, List.getElem_cons_succ, ← ih]
    show ([Value.bool p.un, Value.string p.key, Value.string p.raw] ++ ps.flatMap ptC).set ((k + 1) * 3 + 2) _ = [Value.bool p.un, Value.string p.key, Value.string p.raw] ++ _
    rw [show (k + 1) * 3 + 2 = k * 3 + 2 + 1 + 1 + 1 by omega]
    rfl
theorem splE_nil (ts : Els) (p : Nat) (tg : List Els) : splE ts p [] tg = dropE ts p := by cases tg <;> rfl
theorem takeE_len_le (ts : Els) (p q : Nat) (h : p ≤ q) : (rawE (takeE ts p)).length ≤ (rawE (takeE ts q)).length := by
  obtain ⟨d, rfl⟩ : ∃ d, q = p + d := ⟨q - p, by omega⟩
  rw [takeE_split, rawE_app, List.length_append]
  omega
theorem takeE_len_all (ts : Els) (p : Nat) : (rawE (takeE ts p)).length ≤ (rawE ts).length := by
  rw [rawE_take_le ts p, List.length_append]
  omega
theorem rdInt_get {w : World} {A : Option Addr} {n c : Nat} {l : List Int} (h : RdE intC 1 w (.slice A n c) l) (k : Nat) {v : Int} (hk : l[k]? = some v) : ∃ b o, A = some ⟨b, o, none⟩ ∧ w.cell? ⟨b, o + k, none⟩ = some (.int .i64 v) := by
  obtain ⟨hl, hv⟩ := List.getElem?_eq_some_iff.1 hk
  obtain ⟨b, o, hA, _, hc⟩ := rdInt_at h k hl
  exact ⟨b, o, hA, by rw [hc, hv]⟩
theorem rdInt_get2 {w : World} {b o n c : Nat} {l : List Int} (h : RdE intC 1 w (.slice (some ⟨b, o, none⟩) n c) l) (k : Nat) {v : Int} (hk : l[k]? = some v) : w.cell? ⟨b, o + k, none⟩ = some (.int .i64 v) := by
  obtain ⟨b', o', hA, hc⟩ := rdInt_get h k hk
  injection hA with hA
  injection hA with e1 e2 _
  rw [e1, e2]
  exact hc

/-- What a replacement asks of a unit's elements ts, its ranges and its targets. -/
structure RplOk (m fmt : Int) (ps : List Pt) (k : Nat) (ts : Els) (cs : List Int) (rl : List (Nat × Nat)) (tg : List (List Tk)) (n : Nat) : Prop where
  fm : FmtOk fmt
  len : ps.length ≤ 100000
  size : (bytesP ps).length ≤ 1000000
  spl : SplOk m fmt (ofL (bytesP ps)) ps
  kl : k < ps.length
  un : (ps[k]'kl).un = true
  raw : (ps[k]'kl).raw = ofL (rawE ts)
  rsz : (rawE ts).length ≤ 1000000
  dec : DecOk m fmt (ofL (rawE ts)) (normL (itmE ts))
  one : expF (itmE ts) = itmE ts
  pos : (itmE ts).length ≤ 500
  cut : CutOk m fmt (ofL (rawE ts)) cs
  csl : cs.length = (itmE ts).length + 1
  cat : ∀ p, p ≤ (itmE ts).length → cs[p]? = some ((rawE (takeE ts p)).length : Int)
  rtl : rl.length = tg.length
  rll : rl.length ≤ 100000
  asc : ascL 0 rl (itmE ts).length
  tgn : ∀ t ∈ tg, Normal t
  enc : ∀ t ∈ tg, EncOk m fmt t (ofL (encF fmt t))
  new : DecOk m fmt (ofL (rawE (splE ts 0 rl (tg.map (tsF fmt))))) (normL (itmE (splE ts 0 rl (tg.map (tsF fmt)))))
  none_ : expF (itmE (splE ts 0 rl (tg.map (tsF fmt)))) = itmE (splE ts 0 rl (tg.map (tsF fmt)))
  npos : (itmE (splE ts 0 rl (tg.map (tsF fmt)))).length ≤ 500
  nrsz : (rawE (splE ts 0 rl (tg.map (tsF fmt)))).length ≤ 1000000
  num : numsG (normL (itmE (splE ts 0 rl (tg.map (tsF fmt))))) [] = cnt1 n
  nle : n ≤ 100000
  knd : ∀ x ∈ normL (itmE (splE ts 0 rl (tg.map (tsF fmt)))), KindT n x
  nsz : (bytesP (ps.set k ⟨true, (ps[k]'kl).key, ofL (rawE (splE ts 0 rl (tg.map (tsF fmt))))⟩)).length ≤ 65536

set_option maxRecDepth 100000 in
set_option maxHeartbeats 8000000 in
theorem replace_doc {m fmt : Int} {ps : List Pt} {k : Nat} {ts : Els} {cs : List Int} {rl : List (Nat × Nat)} {tg : List (List Tk)} {n : Nat} (h : RplOk m fmt ps k ts cs rl tg n) (A A2 A3 : Option Addr) (c c2 c3 : Nat) (w : World) (hm : w.cell? ⟨0, 0, none⟩ = some (.int .i64 m)) (h1 : RdE ptC 3 w (.slice A ps.length c) ps) (h2 : RdE rangeC 2 w (.slice A2 rl.length c2) rl) (h3 : RdTT w (.slice A3 tg.length c3) tg) :
    Calls Tryz.prog 32 #[.agg #[.int .i64 fmt, .slice A ps.length c], .int .i64 k, .slice A2 rl.length c2, .slice A3 tg.length c3] w (fun e w' => ∃ A' c', e = .returned (.tuple #[.agg #[.int .i64 fmt, .slice A' ps.length c'], .int .i64 0]) ∧ OwnE 52 ptC 3 w' w.heap.size (.slice A' ps.length c') (ps.set k ⟨true, (ps[k]'h.kl).key, ofL (rawE (splE ts 0 rl (tg.map (tsF fmt))))⟩) ∧ Below w.heap.size w w') := by
  obtain ⟨R, HRR⟩ : ∃ R : Ending → World → Prop, Hid (R = fun e w' => ∃ A' c', e = .returned (.tuple #[.agg #[.int .i64 fmt, .slice A' ps.length c'], .int .i64 0]) ∧ OwnE 52 ptC 3 w' w.heap.size (.slice A' ps.length c') (ps.set k ⟨true, (ps[k]'h.kl).key, ofL (rawE (splE ts 0 rl (tg.map (tsF fmt))))⟩) ∧ Below w.heap.size w w') := ⟨_, rfl⟩
  rw [← HRR.out]
  -- WALK
  have hrtl : rl.length = tg.length := h.rtl
  have HRTL := Lib.hid hrtl
  rw [hrtl] at h2 ⊢
  clear hrtl
  obtain ⟨f, hf⟩ : ∃ f, Hid (normL (itmE ts) = f) := ⟨_, rfl⟩
  obtain ⟨raw, hraw⟩ : ∃ raw, Hid (ofL (rawE ts) = raw) := ⟨_, rfl⟩
  obtain ⟨NEW, hNEW⟩ : ∃ NEW, Hid (rawE (splE ts 0 rl (tg.map (tsF fmt))) = NEW) := ⟨_, rfl⟩
  have hlf : lenI f = (itmE ts).length := by rw [← hf.out, lenI_norm, lenI_exp _ h.one]
  have hfl : f.length ≤ 500 := by
    have := len_norm (itmE ts)
    rw [hf.out, lenI_exp _ h.one] at this
    have := h.pos
    omega
  have hef : expF f = itmE ts := by rw [← hf.out, expF_norm, h.one]
  have HREP : Hid (normL (repU (expF f) 0 rl tg) = normL (itmE (splE ts 0 rl (tg.map (tsF fmt))))) := by show _ = _; rw [hef, itm_spl]
  have HH := Lib.hid h
  have HM := Lib.hid hm
  have HP := Lib.hid h1
  have HRL := Lib.hid h2
  have HTG := Lib.hid h3
  have hrs : raw.size = (rawE ts).length := by rw [← hraw.out, size_ofL]
  have hrs2 : raw.size ≤ 1000000 := by rw [hrs]; exact h.rsz
  have CV := Lib.hid (fun (W : World) (hW : Below w.heap.size w W) => dvalid_any m fmt h.fm ps h.spl A c W (below_cell0 hm hW) (RdE.below h1 hW (Nat.le_refl _)) h.len h.size)
  have CC := Lib.hid (fun (W : World) (hW : Below w.heap.size w W) => content_any m fmt h.fm ps f k h.kl h.un (by rw [h.raw, ← hf.out]; exact h.dec) A c W (below_cell0 hm hW) (RdE.below h1 hW (Nat.le_refl _)) h.len)
  have CL := Lib.hid (fun (v : Value) (W : World) (hr : RdT W v f) => ilength_any f v W hr (by have := h.pos; omega) (by omega))
  have CA := Lib.hid (fun (W : World) (hW : Below w.heap.size w W) => asc_any rl (lenI f) _ W (RdE.below h2 hW (Nat.le_refl _)) h.rll (by have := h.pos; omega) (by rw [hlf]; exact h.asc))
  have CCU := Lib.hid (fun (W : World) (hW : Below w.heap.size w W) => cuts_any fmt h.fm raw cs W (by rw [← hraw.out]; exact h.cut W (below_cell0 hm hW)))
  have hkl := h.kl
  have hpl := h.len
  have hrlb : tg.length ≤ 100000 := by rw [← HRTL.out]; exact h.rll
  obtain ⟨b, o, rfl, hb, p0, p1, p2⟩ := RdP.at_ h1 k h.kl
  have HP2 : Hid (w.cell? ⟨b, o + k * 3 + 2, none⟩ = some (.string raw)) := by show _ = _; rw [p2, h.raw, hraw.out]
  have HB0 : Hid (Below w.heap.size w (((w.alloc (.cells #[.int .i64 fmt, .slice (some ⟨b, o, none⟩) ps.length c] 41)).alloc (.cells #[.int .i64 0, .slice none 0 0] 41)).alloc (.cells #[.int .i64 0, .slice none 0 0] 41))) := Lib.hid ((((Below.refl w.heap.size w).alloc (Nat.le_refl _) _).alloc (by simp) _).alloc (by simp; omega) _)
  have HX0 : Hid ((((w.alloc (.cells #[.int .i64 fmt, .slice (some ⟨b, o, none⟩) ps.length c] 41)).alloc (.cells #[.int .i64 0, .slice none 0 0] 41)).alloc (.cells #[.int .i64 0, .slice none 0 0] 41)).heap[w.heap.size]? = some (.cells #[.int .i64 fmt, .slice (some ⟨b, o, none⟩) ps.length c] 41)) := by
    show _ = _
    rw [Below.heap_alloc _ _ _ (by simp; omega), Below.heap_alloc _ _ _ (by simp)]
    exact heap_alloc_new w _
  have HY0 : Hid ((((w.alloc (.cells #[.int .i64 fmt, .slice (some ⟨b, o, none⟩) ps.length c] 41)).alloc (.cells #[.int .i64 0, .slice none 0 0] 41)).alloc (.cells #[.int .i64 0, .slice none 0 0] 41)).heap[w.heap.size + 1]? = some (.cells #[.int .i64 0, .slice none 0 0] 41)) := by
    show _ = _
    rw [Below.heap_alloc _ _ _ (by simp)]
    have := heap_alloc_new (w.alloc (.cells #[.int .i64 fmt, .slice (some ⟨b, o, none⟩) ps.length c] 41)) (.cells #[.int .i64 0, .slice none 0 0] 41)
    simpa using this
  have HLF := Lib.hid hlf
  have HRS := Lib.hid hrs
  have hefx := Lib.hid hef
  have hlf2 : lenI f ≤ 500 := by rw [hlf]; exact h.pos
  clear h1 h2 h3 hm p0 p1 p2 hef hf hlf hrs
  obtain ⟨lf, hlfx⟩ : ∃ lf, Hid (lenI f = lf) := ⟨_, rfl⟩
  rw [hlfx.out] at CL CA HLF hlf2
  go_enter Tryz.func32, Tryz.ntmps32
  go_upto_region 2 with fail
  generalize ((w.alloc (.cells #[.int .i64 fmt, .slice (some ⟨b, o, none⟩) ps.length c] 41)).alloc (.cells #[.int .i64 0, .slice none 0 0] 41)).alloc (.cells #[.int .i64 0, .slice none 0 0] 41) = W0 at HB0 HX0 HY0 ⊢
  obtain ⟨g, hgx⟩ : ∃ g, Hid (w.heap.size = g) := ⟨_, rfl⟩
  rw [hgx.out] at HX0 HY0
  rw [hgx.out]
  have hgw : w.heap.size ≤ g := Nat.le_of_eq hgx.out
  obtain ⟨x0, x1, _⟩ := bx2 HX0.out
  go_upto_region 11 with (first
    | (go_at_call 65; refine (CV.out _ (by exact HB0.out)).mono ?_; rintro e W1 ⟨rfl, hb1⟩; have HB1 := Lib.hid (HB0.out.trans (hb1.mono HB0.out.size)); have HX1 := Lib.hid (heap_step HX0.out hb1); have HY1 := Lib.hid (heap_step HY0.out hb1); obtain ⟨y0, y1, _⟩ := bx2 HX1.out; clear hb1)
    | (go_at_call 27; refine (CC.out _ (by exact HB1.out)).mono ?_; rintro e W2 ⟨vf, rfl, ho2, hb2⟩; obtain ⟨Af, cf, rfl⟩ := own_shape ho2; have HB2 := Lib.hid (HB1.out.trans (hb2.mono HB1.out.size)); have HX2 := Lib.hid (heap_step HX1.out hb2); have HY2 := Lib.hid (heap_step HY1.out hb2); have HF2 := Lib.hid (OwnE.rd tkC_three ho2); clear ho2 hb2)
    | (go_at_call 62; refine (CL.out _ _ (by exact HF2.out)).mono ?_; rintro e W3 ⟨rfl, hb3⟩; have HB3 := Lib.hid (HB2.out.trans (hb3.mono HB2.out.size)); have HX3 := Lib.hid (heap_step HX2.out hb3); have HY3 := Lib.hid (heap_step HY2.out hb3); have HF3 := Lib.hid (RdE.below HF2.out hb3 (Nat.le_refl _)); clear hb3)
    | (go_at_call 66; refine (CA.out _ (by exact HB3.out)).mono ?_; rintro e W4 ⟨rfl, hb4⟩; have HB4 := Lib.hid (HB3.out.trans (hb4.mono HB3.out.size)); have HX4 := Lib.hid (heap_step HX3.out hb4); have HY4 := Lib.hid (heap_step HY3.out hb4); have HF4 := Lib.hid (RdE.below HF3.out hb4 (Nat.le_refl _)); obtain ⟨z0, z1, _⟩ := bx2 HX4.out; have z2 := (HB4.out.cell (p := ⟨b, o + k * 3 + 2, none⟩) hb).trans HP2.out; clear hb4))
  go_upto_region 16 with (go_at_call 67; refine (CCU.out _ (by exact HB4.out)).mono ?_; rintro e W5 ⟨vc, rfl, ho5, hb5⟩; obtain ⟨Ac, cc, rfl⟩ := own_shape ho5; have HB5 := Lib.hid (HB4.out.trans (hb5.mono HB4.out.size)); have HX5 := Lib.hid (heap_step HX4.out hb5); have HY5 := Lib.hid (heap_step HY4.out hb5); have HF5 := Lib.hid (RdE.below HF4.out hb5 (Nat.le_refl _)); have HC5 := Lib.hid (OwnE.rd intC_one ho5); clear ho5 hb5)
  have hA0 : ((rawE (takeE ts 0)).length : Int) = 0 := by cases ts <;> rfl
  go_loopg [16, 17, 73] tg.length (fun gk sv av iv wr => ∃ (i p : Nat) (sb : ByteArray), sv = .string sb ∧ av = .int .i64 ((rawE (takeE ts p)).length : Nat) ∧ iv = .int .i64 i ∧ i ≤ tg.length ∧ p ≤ lf ∧ Hid (ascL p (rl.drop i) lf) ∧ Hid (sb.data.toList ++ rawE (splE ts p (rl.drop i) ((tg.drop i).map (tsF fmt))) = NEW) ∧ Hid (Below w.heap.size w wr) ∧ Hid (wr.heap[g]? = some (.cells #[.int .i64 fmt, .slice (some ⟨b, o, none⟩) ps.length c] 41)) ∧ Hid (wr.heap[g + 1]? = some (.cells #[.int .i64 0, .slice none 0 0] 41)) ∧ Hid (RdT wr (.slice Af f.length cf) f) ∧ Hid (RdE intC 1 wr (.slice Ac cs.length cc) cs) ∧ tg.length - i ≤ gk)
  case atStart => exact ⟨0, 0, ⟨#[]⟩, rfl, by rw [hA0], rfl, Nat.zero_le _, Nat.zero_le _, by rw [HLF.out]; exact HH.out.asc, hNEW.out, HB5.out, HX5.out, HY5.out, HF5.out, HC5.out, Nat.le_refl _⟩
  case round =>
    obtain ⟨i, p, sb, rfl, rfl, rfl, hi, hpf, HS, HE, HB, HX, HY, HF, HC, hgk⟩ := hrel
    clear hA0 HB5 HX5 HY5 HF5 HC5 HB4 HX4 HY4 HF4 HB3 HX3 HY3 HF3 HB2 HX2 HY2 HF2 HB1 HX1 HY1 HB0 HX0 HY0 CV CC CL CA CCU x0 x1 y0 y1 z0 z1 z2
    have hNL : NEW.length ≤ 1000000 := by rw [← hNEW.out]; exact HH.out.nrsz
    by_cases hlt : i < tg.length
    · have hlr : i < rl.length := by rw [HRTL.out]; exact hlt
      obtain ⟨b2, o2, hA2, hb2, c0, c1⟩ := rdR_at HRL.out i hlr
      obtain ⟨b3, o3, At, ct, hA3, hb3, t00, ht00⟩ := RdTT.at_ HTG.out i hlt
      subst hA2
      subst hA3
      have hs := HS.out
      have he := HE.out
      rw [List.drop_eq_getElem_cons hlr] at hs he
      rw [List.drop_eq_getElem_cons hlt, List.map_cons, splE] at he
      have hmem := List.getElem_mem hlt
      have henc := HH.out.enc _ hmem
      generalize rl[i] = x at *
      generalize tg[i] = tk at *
      obtain ⟨x1, x2⟩ := x
      obtain ⟨s1, s2, s3, s4⟩ := hs
      simp only at c0 c1 s1 s2 s3 s4 he
      have HS4 := Lib.hid s4
      rw [rawE_app, rawE_app, raw_tsF] at he
      have CE := Lib.hid (fun (W : World) (hW : Below w.heap.size w W) => enc_any fmt HH.out.fm At tk.length ct (ofL (encF fmt tk)) W (henc At ct W (below_cell0 HM.out hW) (RdE.below ht00 hW (Nat.le_refl _))))
      obtain ⟨e1, he1⟩ : ∃ e1 : ByteArray, Hid (ofL (rawE (takeE (dropE ts p) (x1 - p))) = e1) := ⟨_, rfl⟩
      obtain ⟨e2, he2⟩ : ∃ e2 : ByteArray, Hid (ofL (encF fmt tk) = e2) := ⟨_, rfl⟩
      rw [he2.out] at CE
      have hTL := congrArg List.length he
      simp only [List.length_append] at hTL
      have z1 : e1.size = (rawE (takeE (dropE ts p) (x1 - p))).length := by rw [← he1.out, size_ofL]
      have z2 : e2.size = (encF fmt tk).length := by rw [← he2.out, size_ofL]
      have z3 : sb.size = sb.data.toList.length := Lib.size_eq sb
      have hz1 : e1.size ≤ 1000000 := by omega
      have hz2 : e2.size ≤ 1000000 := by omega
      have hz3 : sb.size ≤ 1000000 := by omega
      have hm1 := takeE_len_le ts p x1 s1
      have hm2 := takeE_len_le ts x1 x2 s2
      have hm3 := takeE_len_all ts x2
      have hxl : x2 ≤ (itmE ts).length := by rw [← HLF.out]; exact s3
      have hk1 := HH.out.cat x1 (Nat.le_trans s2 hxl)
      have hk2 := HH.out.cat x2 hxl
      have hex : raw.extract (rawE (takeE ts p)).length (rawE (takeE ts x1)).length = e1 := by
        rw [← he1.out, ← hraw.out]
        refine ext_list _ _ _ _ ?_
        rw [show (ofL (rawE ts)).data.toList = rawE ts by simp [ofL], raw_cut ts p x1 s1]
        simp [ofL]
      have HEN : Hid ((sb ++ (e1 ++ e2)).data.toList ++ rawE (splE ts x2 (rl.drop (i + 1)) ((tg.drop (i + 1)).map (tsF fmt))) = NEW) := by
        show _ = _
        rw [← he, ← he1.out, ← he2.out]
        simp [ofL]
      have hra : (rawE (takeE ts x1)).length ≤ raw.size := by rw [HRS.out]; omega
      have hlt2 : (i : Int) < (tg.length : Int) := by omega
      have hlt3 : x1 < cs.length := by rw [HH.out.csl]; omega
      have hlt4 : x2 < cs.length := by rw [HH.out.csl]; omega
      have hal := (Below.refl wr.heap.size wr).alloc (Nat.le_refl _) (.cells #[.int .i64 x1, .int .i64 x2] 54)
      have HBA := Lib.hid (HB.out.trans (hal.mono HB.out.size))
      have HXA := Lib.hid (heap_step HX.out hal)
      have HYA := Lib.hid (heap_step HY.out hal)
      have HFA := Lib.hid (RdE.below HF.out hal (Nat.le_refl _))
      have HCA := Lib.hid (RdE.below HC.out hal (Nat.le_refl _))
      have HRA : Hid ((wr.alloc (.cells #[.int .i64 x1, .int .i64 x2] 54)).heap[wr.heap.size]? = some (.cells #[.int .i64 x1, .int .i64 x2] 54)) := heap_alloc_new wr _
      have r0 := (HB.out.cell (p := ⟨b2, o2 + i * 2, none⟩) hb2).trans c0
      have r1 := (HB.out.cell (p := ⟨b2, o2 + i * 2 + 1, none⟩) hb2).trans c1
      clear he hTL z1 z2 z3 hal s4 hmem henc ht00 c0 c1 HS HE HX HY HF HC
      go_upto_region 18 with fail
      generalize wr.heap.size = gr at HRA ⊢
      generalize wr.alloc (.cells #[.int .i64 x1, .int .i64 x2] 54) = wa at HBA HXA HYA HFA HCA HRA ⊢
      obtain ⟨x0, x1', _⟩ := bx2 HXA.out
      have t0 := (HBA.out.cell (p := ⟨b3, o3 + i, none⟩) hb3).trans t00
      clear r0 r1 HB
      generalize (rawE (takeE ts p)).length = a0 at *
      generalize (rawE (takeE ts x1)).length = a1 at *
      obtain ⟨a2, ha2⟩ : ∃ a2, Hid ((rawE (takeE ts x2)).length = a2) := ⟨_, rfl⟩
      rw [ha2.out] at hk2 hm2 hm3
      go_region_with (go_at_call 68; refine (CE.out _ ?hbx).mono ?_; (case hbx => (repeat' (first | exact HBA.out | refine below_drewN ?_ _ | refine Below.drew ?_))); rintro e W6 ⟨rfl, hb6⟩; have hb7 : Below wa.heap.size wa W6 := ⟨hb6.os, hb6.tape, hb6.output, hb6.size, hb6.block⟩; have HB6 := Lib.hid (HBA.out.trans (hb7.mono HBA.out.size)); have HX6 := Lib.hid (heap_step HXA.out hb7); have HY6 := Lib.hid (heap_step HYA.out hb7); have HF6 := Lib.hid (RdE.below HFA.out hb7 (Nat.le_refl _)); have HC6 := Lib.hid (RdE.below HCA.out hb7 (Nat.le_refl _)); obtain ⟨q0, q1, _⟩ := bx2 (heap_step HRA.out hb7); clear hb6 hb7)
      all_goals (
        obtain ⟨bc, oc, rfl, d1⟩ := rdInt_get HC6.out x1 hk1
        have d2 := rdInt_get2 HC6.out x2 hk2
        go_wp2_with fail
        go_roundg (tg.length - (i + 1))
        case measure => omega
        case rel => exact ⟨i + 1, x2, sb ++ (e1 ++ e2), rfl, by rw [ha2.out], rfl, hlt, s3, HS4.out, HEN.out, HB6.out, HX6.out, HY6.out, HF6.out, HC6.out, Nat.le_refl _⟩)
    · obtain rfl : i = tg.length := by omega
      have he := HE.out
      rw [show rl.drop tg.length = [] by rw [← HRTL.out, List.drop_length], List.drop_length, List.map_nil, splE_nil] at he
      obtain ⟨e9, he9⟩ : ∃ e9 : ByteArray, Hid (ofL (rawE (dropE ts p)) = e9) := ⟨_, rfl⟩
      obtain ⟨nb, hnb⟩ : ∃ nb : ByteArray, Hid (ofL NEW = nb) := ⟨_, rfl⟩
      obtain ⟨fN, hfN⟩ : ∃ fN, Hid (normL (itmE (splE ts 0 rl (tg.map (tsF fmt)))) = fN) := ⟨_, rfl⟩
      have hTL := congrArg List.length he
      rw [List.length_append] at hTL
      have z1 : e9.size = (rawE (dropE ts p)).length := by rw [← he9.out, size_ofL]
      have z3 : sb.size = sb.data.toList.length := Lib.size_eq sb
      have hz1 : e9.size ≤ 1000000 := by omega
      have hz3 : sb.size ≤ 1000000 := by omega
      have hex : raw.extract (rawE (takeE ts p)).length raw.size = e9 := by
        rw [← he9.out, ← hraw.out]
        refine ext_list _ _ _ _ ?_
        rw [show (ofL (rawE ts)).data.toList = rawE ts by simp [ofL], size_ofL, List.take_length, raw_rest]
        simp [ofL]
      have hcat : sb ++ e9 = nb := by
        apply ByteArray.ext
        apply Array.toList_inj.1
        rw [← hnb.out, ← he9.out, ← he]
        simp [ofL]
      have hra : (rawE (takeE ts p)).length ≤ raw.size := by rw [HRS.out]; exact takeE_len_all ts p
      have hnew := HH.out.new
      rw [hNEW.out, hnb.out, hfN.out] at hnew
      rw [hfN.out] at HREP
      have hfN2 : fN.length ≤ 500 ∧ lenI fN ≤ 500 := by
        have h1 := len_norm (itmE (splE ts 0 rl (tg.map (tsF fmt))))
        have h2 := lenI_norm (itmE (splE ts 0 rl (tg.map (tsF fmt))))
        have h3 := lenI_exp _ HH.out.none_
        have h4 := HH.out.npos
        rw [hfN.out] at h1 h2
        omega
      have hnn : normL fN = fN := by rw [← hfN.out, normL_of_normal _ (normL_normal _)]
      have CD := Lib.hid (fun (W : World) (hW : Below w.heap.size w W) => dec_any fmt HH.out.fm nb fN W (hnew W (below_cell0 HM.out hW)))
      have CR := Lib.hid (fun (W : World) (hW : Below w.heap.size w W) (hr : RdT W (.slice Af f.length cf) f) => replaced_any f rl tg _ _ _ W hr (RdE.below HRL.out hW (Nat.le_refl _)) (RdTT.below HTG.out hW (Nat.le_refl _)) HRTL.out HH.out.rll (by omega) (by rw [hlfx.out]; omega) (by rw [hlfx.out, HLF.out]; exact HH.out.asc) (by rw [hefx.out, ← itm_spl fmt]; exact Nat.le_trans HH.out.npos (by decide)) HH.out.tgn)
      rw [HREP.out] at CR
      have hnum := HH.out.num
      have hknd := HH.out.knd
      rw [hfN.out] at hnum hknd
      have CN := Lib.hid (fun (v : Value) (W : World) (hr : RdT W v fN) => renumber_any fN n v W hr (by omega) (by omega) HH.out.nle hknd hnum)
      rw [hnn] at CN
      have CSM := Lib.hid (fun (va vb : Value) (W : World) (ha : RdT W va fN) (hb : RdT W vb fN) => same_any fN va vb W ha hb (by omega))
      clear he hTL z1 z3 hnew hnn hnum hknd HS HE HC hgk
      generalize (rawE (takeE ts p)).length = a0 at *
      obtain ⟨x0, x1, _⟩ := bx2 HX.out
      go_upto_region 30 with (first
        | (go_at_call 56; refine (CD.out _ (by exact HB.out)).mono ?_; rintro e W1 ⟨vg, rfl, ho1, hb1⟩; obtain ⟨Ag, cg, rfl⟩ := own_shape ho1; have HG1 := Lib.hid (OwnE.rd tkC_three ho1); have HB1 := Lib.hid (HB.out.trans (hb1.mono HB.out.size)); have HX1 := Lib.hid (heap_step HX.out hb1); have HY1 := Lib.hid (heap_step HY.out hb1); have HF1 := Lib.hid (RdE.below HF.out hb1 (Nat.le_refl _)); clear ho1 hb1)
        | (go_at_call 71; refine (CR.out _ (by exact HB1.out) (by exact HF1.out)).mono ?_; rintro e W2 ⟨v2, rfl, ho2, hb2⟩; obtain ⟨Ah, ch, rfl⟩ := own_shape ho2; have HR2 := Lib.hid (OwnE.rd tkC_three ho2); have HG2 := Lib.hid (RdE.below HG1.out hb2 (Nat.le_refl _)); have HB2 := Lib.hid (HB1.out.trans (hb2.mono HB1.out.size)); have HX2 := Lib.hid (heap_step HX1.out hb2); have HY2 := Lib.hid (heap_step HY1.out hb2); clear ho2 hb2)
        | (go_at_call 70; refine (CN.out _ _ (by exact HR2.out)).mono ?_; rintro e W3 ⟨v3, rfl, ho3, hb3⟩; obtain ⟨Ai, ci, rfl⟩ := own_shape ho3; have HR3 := Lib.hid (OwnE.rd tkC_three ho3); have HG3 := Lib.hid (RdE.below HG2.out hb3 (Nat.le_refl _)); have HB3 := Lib.hid (HB2.out.trans (hb3.mono HB2.out.size)); have HX3 := Lib.hid (heap_step HX2.out hb3); have HY3 := Lib.hid (heap_step HY2.out hb3); clear ho3 hb3)
        | (go_at_call 69; refine (CSM.out _ _ _ (by exact HG3.out) (by exact HR3.out)).mono ?_; rintro e W4 ⟨rfl, n4, rfl⟩))
      have CLO := Lib.hid (fun (W : World) (hW : Below w.heap.size w W) => cloneP_any ps _ W (RdE.below HP.out hW (Nat.le_refl _)) (by omega) (by intro e; rw [e] at hkl; simp at hkl))
      refine wp_region_at 8 #[false, false, false, false, false, false, false, false] rfl rfl (by kernel_rfl) ?_
      have HBv : Hid (Below w.heap.size w (W3.drewN n4).drew) := (below_drewN HB3.out n4).drew
      have HXv : Hid ((W3.drewN n4).drew.heap[g]? = some (.cells #[.int .i64 fmt, .slice (some ⟨b, o, none⟩) ps.length c] 41)) := HX3.out
      have HYv : Hid ((W3.drewN n4).drew.heap[g + 1]? = some (.cells #[.int .i64 0, .slice none 0 0] 41)) := HY3.out
      clear HB HX HY HF HB1 HX1 HY1 HF1 HG1 HR2 HG2 HB2 HX2 HY2 HG3 HR3 HB3 HX3 HY3 CD CR CN CSM x0 x1
      generalize (W3.drewN n4).drew = V0 at HBv HXv HYv ⊢
      have HB0 := HBv
      have HX0 := HXv
      have HY0 := HYv
      clear HBv HXv HYv
      refine wpAny_at (i := 0) (v := .pointer (some ⟨g, 0, none⟩)) (some 135) rfl rfl (by kernel_rfl) (by kernel_rfl) (by kernel_rfl) (fun _ _ _ h => h) (by kernel_rfl) (fun _ => ex_fieldAddr 41 _ 0 (.pointer (some ⟨g, 0, none⟩)) _ rfl (by kernel_rfl) (by go_simp)) ?_
      simp only [Act.put, List.setIfInBounds_toArray, List.set_cons_zero, List.set_cons_succ]
      refine wpAny_at (i := 2) (v := .pointer (some ⟨g, 1, none⟩)) (some 137) rfl rfl (by kernel_rfl) (by kernel_rfl) (by kernel_rfl) (fun _ _ _ h => h) (by kernel_rfl) (fun _ => ex_fieldAddr 41 _ 1 (.pointer (some ⟨g, 0, none⟩)) _ rfl (by kernel_rfl) (by go_simp)) ?_
      simp only [Act.put, List.setIfInBounds_toArray, List.set_cons_zero, List.set_cons_succ]
      refine wpAny_ops3 1 3 6 (by kernel_rfl) rfl rfl rfl (by kernel_rfl) (by kernel_rfl) (by kernel_rfl) ?_ ?_ ?_
      refine wp_of_val (v := .int .i64 fmt) (ex_load 3 _ (.pointer (some ⟨g, 0, none⟩)) _ rfl (by kernel_rfl) (ldT_int (bx2 HX0.out).1)) ?_
      simp only [Act.put, List.setIfInBounds_toArray, List.set_cons_zero, List.set_cons_succ]
      refine wpAny_two 3 6 (by kernel_rfl) rfl rfl (by kernel_rfl) (by kernel_rfl) ?_ ?_
      refine wp_of_val (v := .slice (some ⟨b, o, none⟩) ps.length c) (ex_load 39 _ (.pointer (some ⟨g, 1, none⟩)) _ rfl (by kernel_rfl) (ldT_parts (bx2 HX0.out).2.1)) ?_
      simp only [Act.put, List.setIfInBounds_toArray, List.set_cons_zero, List.set_cons_succ]
      refine wpAny_two 4 6 (by kernel_rfl) rfl rfl (by kernel_rfl) (by kernel_rfl) ?_ ?_
      refine wp_of_call (ex_call1 (.tmp 138) _ (.slice (some ⟨b, o, none⟩) ps.length c) rfl (by kernel_rfl) (enters_of Tryz.func72 (by kernel_rfl) rfl _ _)) (CLO.out V0 HB0.out) ?_
      rintro e V1 ⟨v9, rfl, ho, hb⟩
      obtain ⟨A9, c9, rfl⟩ := own_shape ho
      have HB1 := Lib.hid (HB0.out.trans (hb.mono HB0.out.size))
      have HX1 := Lib.hid (heap_step HX0.out hb)
      have HY1 := Lib.hid (heap_step HY0.out hb)
      have HO1 := Lib.hid (own_base ho HB0.out.size)
      clear ho hb
      refine ⟨.slice A9 ps.length c9, rfl, ?_⟩
      simp only [Act.put, List.setIfInBounds_toArray, List.set_cons_zero, List.set_cons_succ]
      refine wpAny_at (i := 5) (v := .agg #[.int .i64 fmt, .slice A9 ps.length c9]) (some 140) rfl rfl (by kernel_rfl) (by kernel_rfl) (by kernel_rfl) (fun _ _ _ h => h) (by kernel_rfl) (fun _ => ex_buildD (.tmp 136) (.tmp 139) fmt A9 ps.length c9 rfl (by kernel_rfl) (by kernel_rfl)) ?_
      simp only [Act.put, List.setIfInBounds_toArray, List.set_cons_zero, List.set_cons_succ]
      refine wpAny_only 6 (by kernel_rfl) rfl (by kernel_rfl) ?_
      refine wp_of_valw (ex_allocD rfl) ?_
      have hal := (Below.refl V1.heap.size V1).alloc (Nat.le_refl _) (.cells #[.int .i64 0, .slice none 0 0] 41)
      have HB2 := Lib.hid (HB1.out.trans (hal.mono HB1.out.size))
      have HX2 := Lib.hid (heap_step HX1.out hal)
      have HY2 := Lib.hid (heap_step HY1.out hal)
      have HO2 := Lib.hid (own_step HO1.out hal)
      have HG2 : Hid ((V1.alloc (.cells #[.int .i64 0, .slice none 0 0] 41)).heap[V1.heap.size]? = some (.cells #[.int .i64 0, .slice none 0 0] 41)) := heap_alloc_new V1 _
      have hg3 : g < V1.heap.size := heap_lt HX1.out
      have hg4 : g + 1 < V1.heap.size := heap_lt HY1.out
      clear hal
      generalize V1.heap.size = g3 at HG2 hg3 hg4 ⊢
      generalize V1.alloc (.cells #[.int .i64 0, .slice none 0 0] 41) = V2 at HB2 HX2 HY2 HG2 HO2 ⊢
      simp only [Act.put, List.setIfInBounds_toArray, List.set_cons_zero, List.set_cons_succ]
      refine wpAny_only 7 (by kernel_rfl) rfl (by kernel_rfl) ?_
      refine wp_storeD (.tmp 23) (.tmp 140) rfl rfl g3 fmt A9 ps.length c9 (by kernel_rfl) (by kernel_rfl) HG2.out ?_
      have HB3 := Lib.hid ((HB2.out.setCell (p := ⟨g3, 0, none⟩) (Nat.le_trans hgw (Nat.le_of_lt hg3)) (.int .i64 fmt)).setCell (p := ⟨g3, 1, none⟩) (Nat.le_trans hgw (Nat.le_of_lt hg3)) (.slice A9 ps.length c9))
      have HX3 := Lib.hid ((storeD_out (u0 := .int .i64 fmt) (u1 := .slice A9 ps.length c9) (Nat.ne_of_lt hg3)).trans HX2.out)
      have HY3 := Lib.hid ((storeD_out (u0 := .int .i64 fmt) (u1 := .slice A9 ps.length c9) (Nat.ne_of_lt hg4)).trans HY2.out)
      have HG3 := Lib.hid (storeD_at (u0 := .int .i64 fmt) (u1 := .slice A9 ps.length c9) HG2.out)
      have HO3 := Lib.hid (own_same (w' := (V2.setCell ⟨g3, 0, none⟩ (.int .i64 fmt)).setCell ⟨g3, 1, none⟩ (.slice A9 ps.length c9)) HO2.out fun j hj => storeD_out (fun e => own_apart HO2.out HG2.out (by decide) j hj e))
      generalize (V2.setCell ⟨g3, 0, none⟩ (.int .i64 fmt)).setCell ⟨g3, 1, none⟩ (.slice A9 ps.length c9) = V3 at HB3 HX3 HY3 HG3 HO3 ⊢
      simp only [Act.put, List.setIfInBounds_toArray, List.set_cons_zero, List.set_cons_succ]
      refine wpAny_done (by kernel_rfl) ?_ _
      clear HB0 HX0 HY0 HB1 HX1 HY1 HB2 HX2 HY2
      rename Hid (Below w.heap.size w V3) => HBZ
      rename Hid (V3.heap[g]? = _) => HXZ
      rename Hid (V3.heap[g + 1]? = _) => HYZ
      rename Hid (V3.heap[g3]? = _) => HGZ
      rename Hid (OwnE _ _ _ V3 _ _ _) => HOZ
      generalize V3 = V at *
      rotate_left 1
      refine wp_of_valw (ex_allocD rfl) ?_
      have hal := (Below.refl V0.heap.size V0).alloc (Nat.le_refl _) (.cells #[.int .i64 0, .slice none 0 0] 41)
      have HB1 := Lib.hid (HB0.out.trans (hal.mono HB0.out.size))
      have HX1 := Lib.hid (heap_step HX0.out hal)
      have HY1 := Lib.hid (heap_step HY0.out hal)
      have HG1 : Hid ((V0.alloc (.cells #[.int .i64 0, .slice none 0 0] 41)).heap[V0.heap.size]? = some (.cells #[.int .i64 0, .slice none 0 0] 41)) := heap_alloc_new V0 _
      have hg3 : g < V0.heap.size := heap_lt HX0.out
      have hg4 : g + 1 < V0.heap.size := heap_lt HY0.out
      clear hal
      generalize V0.heap.size = g3 at HG1 hg3 hg4 ⊢
      generalize V0.alloc (.cells #[.int .i64 0, .slice none 0 0] 41) = V1 at HB1 HX1 HY1 HG1 ⊢
      simp only [Act.put, List.setIfInBounds_toArray, List.set_cons_zero, List.set_cons_succ]
      refine wpAny_only 4 (by kernel_rfl) rfl (by kernel_rfl) ?_
      refine wp_of_call (ex_call1 (.tmp 138) _ (.slice (some ⟨b, o, none⟩) ps.length c) rfl (by kernel_rfl) (enters_of Tryz.func72 (by kernel_rfl) rfl _ _)) (CLO.out V1 HB1.out) ?_
      rintro e V2 ⟨v9, rfl, ho, hb⟩
      obtain ⟨A9, c9, rfl⟩ := own_shape ho
      have HB2 := Lib.hid (HB1.out.trans (hb.mono HB1.out.size))
      have HX2 := Lib.hid (heap_step HX1.out hb)
      have HY2 := Lib.hid (heap_step HY1.out hb)
      have HG2 := Lib.hid (heap_step HG1.out hb)
      have HO2 := Lib.hid (own_base ho HB1.out.size)
      clear ho hb
      refine ⟨.slice A9 ps.length c9, rfl, ?_⟩
      simp only [Act.put, List.setIfInBounds_toArray, List.set_cons_zero, List.set_cons_succ]
      refine wpAny_at (i := 5) (v := .agg #[.int .i64 fmt, .slice A9 ps.length c9]) (some 140) rfl rfl (by kernel_rfl) (by kernel_rfl) (by kernel_rfl) (fun _ _ _ h => h) (by kernel_rfl) (fun _ => ex_buildD (.tmp 136) (.tmp 139) fmt A9 ps.length c9 rfl (by kernel_rfl) (by kernel_rfl)) ?_
      simp only [Act.put, List.setIfInBounds_toArray, List.set_cons_zero, List.set_cons_succ]
      refine wpAny_only 7 (by kernel_rfl) rfl (by kernel_rfl) ?_
      refine wp_storeD (.tmp 23) (.tmp 140) rfl rfl g3 fmt A9 ps.length c9 (by kernel_rfl) (by kernel_rfl) HG2.out ?_
      have HB3 := Lib.hid ((HB2.out.setCell (p := ⟨g3, 0, none⟩) (Nat.le_trans hgw (Nat.le_of_lt hg3)) (.int .i64 fmt)).setCell (p := ⟨g3, 1, none⟩) (Nat.le_trans hgw (Nat.le_of_lt hg3)) (.slice A9 ps.length c9))
      have HX3 := Lib.hid ((storeD_out (u0 := .int .i64 fmt) (u1 := .slice A9 ps.length c9) (Nat.ne_of_lt hg3)).trans HX2.out)
      have HY3 := Lib.hid ((storeD_out (u0 := .int .i64 fmt) (u1 := .slice A9 ps.length c9) (Nat.ne_of_lt hg4)).trans HY2.out)
      have HG3 := Lib.hid (storeD_at (u0 := .int .i64 fmt) (u1 := .slice A9 ps.length c9) HG2.out)
      have HO3 := Lib.hid (own_same (w' := (V2.setCell ⟨g3, 0, none⟩ (.int .i64 fmt)).setCell ⟨g3, 1, none⟩ (.slice A9 ps.length c9)) HO2.out fun j hj => storeD_out (fun e => own_apart HO2.out HG2.out (by decide) j hj e))
      generalize (V2.setCell ⟨g3, 0, none⟩ (.int .i64 fmt)).setCell ⟨g3, 1, none⟩ (.slice A9 ps.length c9) = V3 at HB3 HX3 HY3 HG3 HO3 ⊢
      simp only [Act.put, List.setIfInBounds_toArray, List.set_cons_zero, List.set_cons_succ]
      refine wpAny_done (by kernel_rfl) ?_ _
      clear HB0 HX0 HY0 HB1 HX1 HY1 HB2 HX2 HY2
      rename Hid (Below w.heap.size w V3) => HBZ
      rename Hid (V3.heap[g]? = _) => HXZ
      rename Hid (V3.heap[g + 1]? = _) => HYZ
      rename Hid (V3.heap[g3]? = _) => HGZ
      rename Hid (OwnE _ _ _ V3 _ _ _) => HOZ
      generalize V3 = V at *
      rotate_left 1
      refine wp_of_valw (ex_allocD rfl) ?_
      have hal := (Below.refl V0.heap.size V0).alloc (Nat.le_refl _) (.cells #[.int .i64 0, .slice none 0 0] 41)
      have HB1 := Lib.hid (HB0.out.trans (hal.mono HB0.out.size))
      have HX1 := Lib.hid (heap_step HX0.out hal)
      have HY1 := Lib.hid (heap_step HY0.out hal)
      have HG1 : Hid ((V0.alloc (.cells #[.int .i64 0, .slice none 0 0] 41)).heap[V0.heap.size]? = some (.cells #[.int .i64 0, .slice none 0 0] 41)) := heap_alloc_new V0 _
      have hg3 : g < V0.heap.size := heap_lt HX0.out
      have hg4 : g + 1 < V0.heap.size := heap_lt HY0.out
      clear hal
      generalize V0.heap.size = g3 at HG1 hg3 hg4 ⊢
      generalize V0.alloc (.cells #[.int .i64 0, .slice none 0 0] 41) = V1 at HB1 HX1 HY1 HG1 ⊢
      simp only [Act.put, List.setIfInBounds_toArray, List.set_cons_zero, List.set_cons_succ]
      refine wpAny_only 3 (by kernel_rfl) rfl (by kernel_rfl) ?_
      refine wp_of_val (v := .slice (some ⟨b, o, none⟩) ps.length c) (ex_load 39 _ (.pointer (some ⟨g, 1, none⟩)) _ rfl (by kernel_rfl) (ldT_parts (bx2 HX1.out).2.1)) ?_
      simp only [Act.put, List.setIfInBounds_toArray, List.set_cons_zero, List.set_cons_succ]
      refine wpAny_only 4 (by kernel_rfl) rfl (by kernel_rfl) ?_
      refine wp_of_call (ex_call1 (.tmp 138) _ (.slice (some ⟨b, o, none⟩) ps.length c) rfl (by kernel_rfl) (enters_of Tryz.func72 (by kernel_rfl) rfl _ _)) (CLO.out V1 HB1.out) ?_
      rintro e V2 ⟨v9, rfl, ho, hb⟩
      obtain ⟨A9, c9, rfl⟩ := own_shape ho
      have HB2 := Lib.hid (HB1.out.trans (hb.mono HB1.out.size))
      have HX2 := Lib.hid (heap_step HX1.out hb)
      have HY2 := Lib.hid (heap_step HY1.out hb)
      have HG2 := Lib.hid (heap_step HG1.out hb)
      have HO2 := Lib.hid (own_base ho HB1.out.size)
      clear ho hb
      refine ⟨.slice A9 ps.length c9, rfl, ?_⟩
      simp only [Act.put, List.setIfInBounds_toArray, List.set_cons_zero, List.set_cons_succ]
      refine wpAny_at (i := 5) (v := .agg #[.int .i64 fmt, .slice A9 ps.length c9]) (some 140) rfl rfl (by kernel_rfl) (by kernel_rfl) (by kernel_rfl) (fun _ _ _ h => h) (by kernel_rfl) (fun _ => ex_buildD (.tmp 136) (.tmp 139) fmt A9 ps.length c9 rfl (by kernel_rfl) (by kernel_rfl)) ?_
      simp only [Act.put, List.setIfInBounds_toArray, List.set_cons_zero, List.set_cons_succ]
      refine wpAny_only 7 (by kernel_rfl) rfl (by kernel_rfl) ?_
      refine wp_storeD (.tmp 23) (.tmp 140) rfl rfl g3 fmt A9 ps.length c9 (by kernel_rfl) (by kernel_rfl) HG2.out ?_
      have HB3 := Lib.hid ((HB2.out.setCell (p := ⟨g3, 0, none⟩) (Nat.le_trans hgw (Nat.le_of_lt hg3)) (.int .i64 fmt)).setCell (p := ⟨g3, 1, none⟩) (Nat.le_trans hgw (Nat.le_of_lt hg3)) (.slice A9 ps.length c9))
      have HX3 := Lib.hid ((storeD_out (u0 := .int .i64 fmt) (u1 := .slice A9 ps.length c9) (Nat.ne_of_lt hg3)).trans HX2.out)
      have HY3 := Lib.hid ((storeD_out (u0 := .int .i64 fmt) (u1 := .slice A9 ps.length c9) (Nat.ne_of_lt hg4)).trans HY2.out)
      have HG3 := Lib.hid (storeD_at (u0 := .int .i64 fmt) (u1 := .slice A9 ps.length c9) HG2.out)
      have HO3 := Lib.hid (own_same (w' := (V2.setCell ⟨g3, 0, none⟩ (.int .i64 fmt)).setCell ⟨g3, 1, none⟩ (.slice A9 ps.length c9)) HO2.out fun j hj => storeD_out (fun e => own_apart HO2.out HG2.out (by decide) j hj e))
      generalize (V2.setCell ⟨g3, 0, none⟩ (.int .i64 fmt)).setCell ⟨g3, 1, none⟩ (.slice A9 ps.length c9) = V3 at HB3 HX3 HY3 HG3 HO3 ⊢
      simp only [Act.put, List.setIfInBounds_toArray, List.set_cons_zero, List.set_cons_succ]
      refine wpAny_done (by kernel_rfl) ?_ _
      clear HB0 HX0 HY0 HB1 HX1 HY1 HB2 HX2 HY2
      rename Hid (Below w.heap.size w V3) => HBZ
      rename Hid (V3.heap[g]? = _) => HXZ
      rename Hid (V3.heap[g + 1]? = _) => HYZ
      rename Hid (V3.heap[g3]? = _) => HGZ
      rename Hid (OwnE _ _ _ V3 _ _ _) => HOZ
      generalize V3 = V at *
      rotate_left 1
      refine wp_of_val (v := .slice (some ⟨b, o, none⟩) ps.length c) (ex_load 39 _ (.pointer (some ⟨g, 1, none⟩)) _ rfl (by kernel_rfl) (ldT_parts (bx2 HX0.out).2.1)) ?_
      simp only [Act.put, List.setIfInBounds_toArray, List.set_cons_zero, List.set_cons_succ]
      refine wpAny_ops3 1 4 6 (by kernel_rfl) rfl rfl rfl (by kernel_rfl) (by kernel_rfl) (by kernel_rfl) ?_ ?_ ?_
      refine wp_of_val (v := .int .i64 fmt) (ex_load 3 _ (.pointer (some ⟨g, 0, none⟩)) _ rfl (by kernel_rfl) (ldT_int (bx2 HX0.out).1)) ?_
      simp only [Act.put, List.setIfInBounds_toArray, List.set_cons_zero, List.set_cons_succ]
      refine wpAny_two 4 6 (by kernel_rfl) rfl rfl (by kernel_rfl) (by kernel_rfl) ?_ ?_
      refine wp_of_call (ex_call1 (.tmp 138) _ (.slice (some ⟨b, o, none⟩) ps.length c) rfl (by kernel_rfl) (enters_of Tryz.func72 (by kernel_rfl) rfl _ _)) (CLO.out V0 HB0.out) ?_
      rintro e V1 ⟨v9, rfl, ho, hb⟩
      obtain ⟨A9, c9, rfl⟩ := own_shape ho
      have HB1 := Lib.hid (HB0.out.trans (hb.mono HB0.out.size))
      have HX1 := Lib.hid (heap_step HX0.out hb)
      have HY1 := Lib.hid (heap_step HY0.out hb)
      have HO1 := Lib.hid (own_base ho HB0.out.size)
      clear ho hb
      refine ⟨.slice A9 ps.length c9, rfl, ?_⟩
      simp only [Act.put, List.setIfInBounds_toArray, List.set_cons_zero, List.set_cons_succ]
      refine wpAny_at (i := 5) (v := .agg #[.int .i64 fmt, .slice A9 ps.length c9]) (some 140) rfl rfl (by kernel_rfl) (by kernel_rfl) (by kernel_rfl) (fun _ _ _ h => h) (by kernel_rfl) (fun _ => ex_buildD (.tmp 136) (.tmp 139) fmt A9 ps.length c9 rfl (by kernel_rfl) (by kernel_rfl)) ?_
      simp only [Act.put, List.setIfInBounds_toArray, List.set_cons_zero, List.set_cons_succ]
      refine wpAny_only 6 (by kernel_rfl) rfl (by kernel_rfl) ?_
      refine wp_of_valw (ex_allocD rfl) ?_
      have hal := (Below.refl V1.heap.size V1).alloc (Nat.le_refl _) (.cells #[.int .i64 0, .slice none 0 0] 41)
      have HB2 := Lib.hid (HB1.out.trans (hal.mono HB1.out.size))
      have HX2 := Lib.hid (heap_step HX1.out hal)
      have HY2 := Lib.hid (heap_step HY1.out hal)
      have HO2 := Lib.hid (own_step HO1.out hal)
      have HG2 : Hid ((V1.alloc (.cells #[.int .i64 0, .slice none 0 0] 41)).heap[V1.heap.size]? = some (.cells #[.int .i64 0, .slice none 0 0] 41)) := heap_alloc_new V1 _
      have hg3 : g < V1.heap.size := heap_lt HX1.out
      have hg4 : g + 1 < V1.heap.size := heap_lt HY1.out
      clear hal
      generalize V1.heap.size = g3 at HG2 hg3 hg4 ⊢
      generalize V1.alloc (.cells #[.int .i64 0, .slice none 0 0] 41) = V2 at HB2 HX2 HY2 HG2 HO2 ⊢
      simp only [Act.put, List.setIfInBounds_toArray, List.set_cons_zero, List.set_cons_succ]
      refine wpAny_only 7 (by kernel_rfl) rfl (by kernel_rfl) ?_
      refine wp_storeD (.tmp 23) (.tmp 140) rfl rfl g3 fmt A9 ps.length c9 (by kernel_rfl) (by kernel_rfl) HG2.out ?_
      have HB3 := Lib.hid ((HB2.out.setCell (p := ⟨g3, 0, none⟩) (Nat.le_trans hgw (Nat.le_of_lt hg3)) (.int .i64 fmt)).setCell (p := ⟨g3, 1, none⟩) (Nat.le_trans hgw (Nat.le_of_lt hg3)) (.slice A9 ps.length c9))
      have HX3 := Lib.hid ((storeD_out (u0 := .int .i64 fmt) (u1 := .slice A9 ps.length c9) (Nat.ne_of_lt hg3)).trans HX2.out)
      have HY3 := Lib.hid ((storeD_out (u0 := .int .i64 fmt) (u1 := .slice A9 ps.length c9) (Nat.ne_of_lt hg4)).trans HY2.out)
      have HG3 := Lib.hid (storeD_at (u0 := .int .i64 fmt) (u1 := .slice A9 ps.length c9) HG2.out)
      have HO3 := Lib.hid (own_same (w' := (V2.setCell ⟨g3, 0, none⟩ (.int .i64 fmt)).setCell ⟨g3, 1, none⟩ (.slice A9 ps.length c9)) HO2.out fun j hj => storeD_out (fun e => own_apart HO2.out HG2.out (by decide) j hj e))
      generalize (V2.setCell ⟨g3, 0, none⟩ (.int .i64 fmt)).setCell ⟨g3, 1, none⟩ (.slice A9 ps.length c9) = V3 at HB3 HX3 HY3 HG3 HO3 ⊢
      simp only [Act.put, List.setIfInBounds_toArray, List.set_cons_zero, List.set_cons_succ]
      refine wpAny_done (by kernel_rfl) ?_ _
      clear HB0 HX0 HY0 HB1 HX1 HY1 HB2 HX2 HY2
      rename Hid (Below w.heap.size w V3) => HBZ
      rename Hid (V3.heap[g]? = _) => HXZ
      rename Hid (V3.heap[g + 1]? = _) => HYZ
      rename Hid (V3.heap[g3]? = _) => HGZ
      rename Hid (OwnE _ _ _ V3 _ _ _) => HOZ
      generalize V3 = V at *
      rotate_left 1
      refine wp_of_valw (ex_allocD rfl) ?_
      have hal := (Below.refl V0.heap.size V0).alloc (Nat.le_refl _) (.cells #[.int .i64 0, .slice none 0 0] 41)
      have HB1 := Lib.hid (HB0.out.trans (hal.mono HB0.out.size))
      have HX1 := Lib.hid (heap_step HX0.out hal)
      have HY1 := Lib.hid (heap_step HY0.out hal)
      have HG1 : Hid ((V0.alloc (.cells #[.int .i64 0, .slice none 0 0] 41)).heap[V0.heap.size]? = some (.cells #[.int .i64 0, .slice none 0 0] 41)) := heap_alloc_new V0 _
      have hg3 : g < V0.heap.size := heap_lt HX0.out
      have hg4 : g + 1 < V0.heap.size := heap_lt HY0.out
      clear hal
      generalize V0.heap.size = g3 at HG1 hg3 hg4 ⊢
      generalize V0.alloc (.cells #[.int .i64 0, .slice none 0 0] 41) = V1 at HB1 HX1 HY1 HG1 ⊢
      simp only [Act.put, List.setIfInBounds_toArray, List.set_cons_zero, List.set_cons_succ]
      refine wpAny_only 4 (by kernel_rfl) rfl (by kernel_rfl) ?_
      refine wp_of_call (ex_call1 (.tmp 138) _ (.slice (some ⟨b, o, none⟩) ps.length c) rfl (by kernel_rfl) (enters_of Tryz.func72 (by kernel_rfl) rfl _ _)) (CLO.out V1 HB1.out) ?_
      rintro e V2 ⟨v9, rfl, ho, hb⟩
      obtain ⟨A9, c9, rfl⟩ := own_shape ho
      have HB2 := Lib.hid (HB1.out.trans (hb.mono HB1.out.size))
      have HX2 := Lib.hid (heap_step HX1.out hb)
      have HY2 := Lib.hid (heap_step HY1.out hb)
      have HG2 := Lib.hid (heap_step HG1.out hb)
      have HO2 := Lib.hid (own_base ho HB1.out.size)
      clear ho hb
      refine ⟨.slice A9 ps.length c9, rfl, ?_⟩
      simp only [Act.put, List.setIfInBounds_toArray, List.set_cons_zero, List.set_cons_succ]
      refine wpAny_at (i := 5) (v := .agg #[.int .i64 fmt, .slice A9 ps.length c9]) (some 140) rfl rfl (by kernel_rfl) (by kernel_rfl) (by kernel_rfl) (fun _ _ _ h => h) (by kernel_rfl) (fun _ => ex_buildD (.tmp 136) (.tmp 139) fmt A9 ps.length c9 rfl (by kernel_rfl) (by kernel_rfl)) ?_
      simp only [Act.put, List.setIfInBounds_toArray, List.set_cons_zero, List.set_cons_succ]
      refine wpAny_only 7 (by kernel_rfl) rfl (by kernel_rfl) ?_
      refine wp_storeD (.tmp 23) (.tmp 140) rfl rfl g3 fmt A9 ps.length c9 (by kernel_rfl) (by kernel_rfl) HG2.out ?_
      have HB3 := Lib.hid ((HB2.out.setCell (p := ⟨g3, 0, none⟩) (Nat.le_trans hgw (Nat.le_of_lt hg3)) (.int .i64 fmt)).setCell (p := ⟨g3, 1, none⟩) (Nat.le_trans hgw (Nat.le_of_lt hg3)) (.slice A9 ps.length c9))
      have HX3 := Lib.hid ((storeD_out (u0 := .int .i64 fmt) (u1 := .slice A9 ps.length c9) (Nat.ne_of_lt hg3)).trans HX2.out)
      have HY3 := Lib.hid ((storeD_out (u0 := .int .i64 fmt) (u1 := .slice A9 ps.length c9) (Nat.ne_of_lt hg4)).trans HY2.out)
      have HG3 := Lib.hid (storeD_at (u0 := .int .i64 fmt) (u1 := .slice A9 ps.length c9) HG2.out)
      have HO3 := Lib.hid (own_same (w' := (V2.setCell ⟨g3, 0, none⟩ (.int .i64 fmt)).setCell ⟨g3, 1, none⟩ (.slice A9 ps.length c9)) HO2.out fun j hj => storeD_out (fun e => own_apart HO2.out HG2.out (by decide) j hj e))
      generalize (V2.setCell ⟨g3, 0, none⟩ (.int .i64 fmt)).setCell ⟨g3, 1, none⟩ (.slice A9 ps.length c9) = V3 at HB3 HX3 HY3 HG3 HO3 ⊢
      simp only [Act.put, List.setIfInBounds_toArray, List.set_cons_zero, List.set_cons_succ]
      refine wpAny_done (by kernel_rfl) ?_ _
      clear HB0 HX0 HY0 HB1 HX1 HY1 HB2 HX2 HY2
      rename Hid (Below w.heap.size w V3) => HBZ
      rename Hid (V3.heap[g]? = _) => HXZ
      rename Hid (V3.heap[g + 1]? = _) => HYZ
      rename Hid (V3.heap[g3]? = _) => HGZ
      rename Hid (OwnE _ _ _ V3 _ _ _) => HOZ
      generalize V3 = V at *
      rotate_left 1
      refine wp_of_call (ex_call1 (.tmp 138) _ (.slice (some ⟨b, o, none⟩) ps.length c) rfl (by kernel_rfl) (enters_of Tryz.func72 (by kernel_rfl) rfl _ _)) (CLO.out V0 HB0.out) ?_
      rintro e V1 ⟨v9, rfl, ho, hb⟩
      obtain ⟨A9, c9, rfl⟩ := own_shape ho
      have HB1 := Lib.hid (HB0.out.trans (hb.mono HB0.out.size))
      have HX1 := Lib.hid (heap_step HX0.out hb)
      have HY1 := Lib.hid (heap_step HY0.out hb)
      have HO1 := Lib.hid (own_base ho HB0.out.size)
      clear ho hb
      refine ⟨.slice A9 ps.length c9, rfl, ?_⟩
      simp only [Act.put, List.setIfInBounds_toArray, List.set_cons_zero, List.set_cons_succ]
      refine wpAny_two 1 6 (by kernel_rfl) rfl rfl (by kernel_rfl) (by kernel_rfl) ?_ ?_
      refine wp_of_val (v := .int .i64 fmt) (ex_load 3 _ (.pointer (some ⟨g, 0, none⟩)) _ rfl (by kernel_rfl) (ldT_int (bx2 HX1.out).1)) ?_
      simp only [Act.put, List.setIfInBounds_toArray, List.set_cons_zero, List.set_cons_succ]
      refine wpAny_at (i := 5) (v := .agg #[.int .i64 fmt, .slice A9 ps.length c9]) (some 140) rfl rfl (by kernel_rfl) (by kernel_rfl) (by kernel_rfl) (fun _ _ _ h => h) (by kernel_rfl) (fun _ => ex_buildD (.tmp 136) (.tmp 139) fmt A9 ps.length c9 rfl (by kernel_rfl) (by kernel_rfl)) ?_
      simp only [Act.put, List.setIfInBounds_toArray, List.set_cons_zero, List.set_cons_succ]
      refine wpAny_only 6 (by kernel_rfl) rfl (by kernel_rfl) ?_
      refine wp_of_valw (ex_allocD rfl) ?_
      have hal := (Below.refl V1.heap.size V1).alloc (Nat.le_refl _) (.cells #[.int .i64 0, .slice none 0 0] 41)
      have HB2 := Lib.hid (HB1.out.trans (hal.mono HB1.out.size))
      have HX2 := Lib.hid (heap_step HX1.out hal)
      have HY2 := Lib.hid (heap_step HY1.out hal)
      have HO2 := Lib.hid (own_step HO1.out hal)
      have HG2 : Hid ((V1.alloc (.cells #[.int .i64 0, .slice none 0 0] 41)).heap[V1.heap.size]? = some (.cells #[.int .i64 0, .slice none 0 0] 41)) := heap_alloc_new V1 _
      have hg3 : g < V1.heap.size := heap_lt HX1.out
      have hg4 : g + 1 < V1.heap.size := heap_lt HY1.out
      clear hal
      generalize V1.heap.size = g3 at HG2 hg3 hg4 ⊢
      generalize V1.alloc (.cells #[.int .i64 0, .slice none 0 0] 41) = V2 at HB2 HX2 HY2 HG2 HO2 ⊢
      simp only [Act.put, List.setIfInBounds_toArray, List.set_cons_zero, List.set_cons_succ]
      refine wpAny_only 7 (by kernel_rfl) rfl (by kernel_rfl) ?_
      refine wp_storeD (.tmp 23) (.tmp 140) rfl rfl g3 fmt A9 ps.length c9 (by kernel_rfl) (by kernel_rfl) HG2.out ?_
      have HB3 := Lib.hid ((HB2.out.setCell (p := ⟨g3, 0, none⟩) (Nat.le_trans hgw (Nat.le_of_lt hg3)) (.int .i64 fmt)).setCell (p := ⟨g3, 1, none⟩) (Nat.le_trans hgw (Nat.le_of_lt hg3)) (.slice A9 ps.length c9))
      have HX3 := Lib.hid ((storeD_out (u0 := .int .i64 fmt) (u1 := .slice A9 ps.length c9) (Nat.ne_of_lt hg3)).trans HX2.out)
      have HY3 := Lib.hid ((storeD_out (u0 := .int .i64 fmt) (u1 := .slice A9 ps.length c9) (Nat.ne_of_lt hg4)).trans HY2.out)
      have HG3 := Lib.hid (storeD_at (u0 := .int .i64 fmt) (u1 := .slice A9 ps.length c9) HG2.out)
      have HO3 := Lib.hid (own_same (w' := (V2.setCell ⟨g3, 0, none⟩ (.int .i64 fmt)).setCell ⟨g3, 1, none⟩ (.slice A9 ps.length c9)) HO2.out fun j hj => storeD_out (fun e => own_apart HO2.out HG2.out (by decide) j hj e))
      generalize (V2.setCell ⟨g3, 0, none⟩ (.int .i64 fmt)).setCell ⟨g3, 1, none⟩ (.slice A9 ps.length c9) = V3 at HB3 HX3 HY3 HG3 HO3 ⊢
      simp only [Act.put, List.setIfInBounds_toArray, List.set_cons_zero, List.set_cons_succ]
      refine wpAny_done (by kernel_rfl) ?_ _
      clear HB0 HX0 HY0 HB1 HX1 HY1 HB2 HX2 HY2
      rename Hid (Below w.heap.size w V3) => HBZ
      rename Hid (V3.heap[g]? = _) => HXZ
      rename Hid (V3.heap[g + 1]? = _) => HYZ
      rename Hid (V3.heap[g3]? = _) => HGZ
      rename Hid (OwnE _ _ _ V3 _ _ _) => HOZ
      generalize V3 = V at *
      rotate_left 1
      refine wp_of_valw (ex_allocD rfl) ?_
      have hal := (Below.refl V1.heap.size V1).alloc (Nat.le_refl _) (.cells #[.int .i64 0, .slice none 0 0] 41)
      have HB2 := Lib.hid (HB1.out.trans (hal.mono HB1.out.size))
      have HX2 := Lib.hid (heap_step HX1.out hal)
      have HY2 := Lib.hid (heap_step HY1.out hal)
      have HO2 := Lib.hid (own_step HO1.out hal)
      have HG2 : Hid ((V1.alloc (.cells #[.int .i64 0, .slice none 0 0] 41)).heap[V1.heap.size]? = some (.cells #[.int .i64 0, .slice none 0 0] 41)) := heap_alloc_new V1 _
      have hg3 : g < V1.heap.size := heap_lt HX1.out
      have hg4 : g + 1 < V1.heap.size := heap_lt HY1.out
      clear hal
      generalize V1.heap.size = g3 at HG2 hg3 hg4 ⊢
      generalize V1.alloc (.cells #[.int .i64 0, .slice none 0 0] 41) = V2 at HB2 HX2 HY2 HG2 HO2 ⊢
      simp only [Act.put, List.setIfInBounds_toArray, List.set_cons_zero, List.set_cons_succ]
      refine wpAny_only 1 (by kernel_rfl) rfl (by kernel_rfl) ?_
      refine wp_of_val (v := .int .i64 fmt) (ex_load 3 _ (.pointer (some ⟨g, 0, none⟩)) _ rfl (by kernel_rfl) (ldT_int (bx2 HX2.out).1)) ?_
      simp only [Act.put, List.setIfInBounds_toArray, List.set_cons_zero, List.set_cons_succ]
      refine wpAny_at (i := 5) (v := .agg #[.int .i64 fmt, .slice A9 ps.length c9]) (some 140) rfl rfl (by kernel_rfl) (by kernel_rfl) (by kernel_rfl) (fun _ _ _ h => h) (by kernel_rfl) (fun _ => ex_buildD (.tmp 136) (.tmp 139) fmt A9 ps.length c9 rfl (by kernel_rfl) (by kernel_rfl)) ?_
      simp only [Act.put, List.setIfInBounds_toArray, List.set_cons_zero, List.set_cons_succ]
      refine wpAny_only 7 (by kernel_rfl) rfl (by kernel_rfl) ?_
      refine wp_storeD (.tmp 23) (.tmp 140) rfl rfl g3 fmt A9 ps.length c9 (by kernel_rfl) (by kernel_rfl) HG2.out ?_
      have HB3 := Lib.hid ((HB2.out.setCell (p := ⟨g3, 0, none⟩) (Nat.le_trans hgw (Nat.le_of_lt hg3)) (.int .i64 fmt)).setCell (p := ⟨g3, 1, none⟩) (Nat.le_trans hgw (Nat.le_of_lt hg3)) (.slice A9 ps.length c9))
      have HX3 := Lib.hid ((storeD_out (u0 := .int .i64 fmt) (u1 := .slice A9 ps.length c9) (Nat.ne_of_lt hg3)).trans HX2.out)
      have HY3 := Lib.hid ((storeD_out (u0 := .int .i64 fmt) (u1 := .slice A9 ps.length c9) (Nat.ne_of_lt hg4)).trans HY2.out)
      have HG3 := Lib.hid (storeD_at (u0 := .int .i64 fmt) (u1 := .slice A9 ps.length c9) HG2.out)
      have HO3 := Lib.hid (own_same (w' := (V2.setCell ⟨g3, 0, none⟩ (.int .i64 fmt)).setCell ⟨g3, 1, none⟩ (.slice A9 ps.length c9)) HO2.out fun j hj => storeD_out (fun e => own_apart HO2.out HG2.out (by decide) j hj e))
      generalize (V2.setCell ⟨g3, 0, none⟩ (.int .i64 fmt)).setCell ⟨g3, 1, none⟩ (.slice A9 ps.length c9) = V3 at HB3 HX3 HY3 HG3 HO3 ⊢
      simp only [Act.put, List.setIfInBounds_toArray, List.set_cons_zero, List.set_cons_succ]
      refine wpAny_done (by kernel_rfl) ?_ _
      clear HB0 HX0 HY0 HB1 HX1 HY1 HB2 HX2 HY2
      rename Hid (Below w.heap.size w V3) => HBZ
      rename Hid (V3.heap[g]? = _) => HXZ
      rename Hid (V3.heap[g + 1]? = _) => HYZ
      rename Hid (V3.heap[g3]? = _) => HGZ
      rename Hid (OwnE _ _ _ V3 _ _ _) => HOZ
      generalize V3 = V at *
      rotate_left 1
      refine wp_of_valw (ex_allocD rfl) ?_
      have hal := (Below.refl V0.heap.size V0).alloc (Nat.le_refl _) (.cells #[.int .i64 0, .slice none 0 0] 41)
      have HB1 := Lib.hid (HB0.out.trans (hal.mono HB0.out.size))
      have HX1 := Lib.hid (heap_step HX0.out hal)
      have HY1 := Lib.hid (heap_step HY0.out hal)
      have HG1 : Hid ((V0.alloc (.cells #[.int .i64 0, .slice none 0 0] 41)).heap[V0.heap.size]? = some (.cells #[.int .i64 0, .slice none 0 0] 41)) := heap_alloc_new V0 _
      have hg3 : g < V0.heap.size := heap_lt HX0.out
      have hg4 : g + 1 < V0.heap.size := heap_lt HY0.out
      clear hal
      generalize V0.heap.size = g3 at HG1 hg3 hg4 ⊢
      generalize V0.alloc (.cells #[.int .i64 0, .slice none 0 0] 41) = V1 at HB1 HX1 HY1 HG1 ⊢
      simp only [Act.put, List.setIfInBounds_toArray, List.set_cons_zero, List.set_cons_succ]
      refine wpAny_two 1 4 (by kernel_rfl) rfl rfl (by kernel_rfl) (by kernel_rfl) ?_ ?_
      refine wp_of_val (v := .int .i64 fmt) (ex_load 3 _ (.pointer (some ⟨g, 0, none⟩)) _ rfl (by kernel_rfl) (ldT_int (bx2 HX1.out).1)) ?_
      simp only [Act.put, List.setIfInBounds_toArray, List.set_cons_zero, List.set_cons_succ]
      refine wpAny_only 4 (by kernel_rfl) rfl (by kernel_rfl) ?_
      refine wp_of_call (ex_call1 (.tmp 138) _ (.slice (some ⟨b, o, none⟩) ps.length c) rfl (by kernel_rfl) (enters_of Tryz.func72 (by kernel_rfl) rfl _ _)) (CLO.out V1 HB1.out) ?_
      rintro e V2 ⟨v9, rfl, ho, hb⟩
      obtain ⟨A9, c9, rfl⟩ := own_shape ho
      have HB2 := Lib.hid (HB1.out.trans (hb.mono HB1.out.size))
      have HX2 := Lib.hid (heap_step HX1.out hb)
      have HY2 := Lib.hid (heap_step HY1.out hb)
      have HG2 := Lib.hid (heap_step HG1.out hb)
      have HO2 := Lib.hid (own_base ho HB1.out.size)
      clear ho hb
      refine ⟨.slice A9 ps.length c9, rfl, ?_⟩
      simp only [Act.put, List.setIfInBounds_toArray, List.set_cons_zero, List.set_cons_succ]
      refine wpAny_at (i := 5) (v := .agg #[.int .i64 fmt, .slice A9 ps.length c9]) (some 140) rfl rfl (by kernel_rfl) (by kernel_rfl) (by kernel_rfl) (fun _ _ _ h => h) (by kernel_rfl) (fun _ => ex_buildD (.tmp 136) (.tmp 139) fmt A9 ps.length c9 rfl (by kernel_rfl) (by kernel_rfl)) ?_
      simp only [Act.put, List.setIfInBounds_toArray, List.set_cons_zero, List.set_cons_succ]
      refine wpAny_only 7 (by kernel_rfl) rfl (by kernel_rfl) ?_
      refine wp_storeD (.tmp 23) (.tmp 140) rfl rfl g3 fmt A9 ps.length c9 (by kernel_rfl) (by kernel_rfl) HG2.out ?_
      have HB3 := Lib.hid ((HB2.out.setCell (p := ⟨g3, 0, none⟩) (Nat.le_trans hgw (Nat.le_of_lt hg3)) (.int .i64 fmt)).setCell (p := ⟨g3, 1, none⟩) (Nat.le_trans hgw (Nat.le_of_lt hg3)) (.slice A9 ps.length c9))
      have HX3 := Lib.hid ((storeD_out (u0 := .int .i64 fmt) (u1 := .slice A9 ps.length c9) (Nat.ne_of_lt hg3)).trans HX2.out)
      have HY3 := Lib.hid ((storeD_out (u0 := .int .i64 fmt) (u1 := .slice A9 ps.length c9) (Nat.ne_of_lt hg4)).trans HY2.out)
      have HG3 := Lib.hid (storeD_at (u0 := .int .i64 fmt) (u1 := .slice A9 ps.length c9) HG2.out)
      have HO3 := Lib.hid (own_same (w' := (V2.setCell ⟨g3, 0, none⟩ (.int .i64 fmt)).setCell ⟨g3, 1, none⟩ (.slice A9 ps.length c9)) HO2.out fun j hj => storeD_out (fun e => own_apart HO2.out HG2.out (by decide) j hj e))
      generalize (V2.setCell ⟨g3, 0, none⟩ (.int .i64 fmt)).setCell ⟨g3, 1, none⟩ (.slice A9 ps.length c9) = V3 at HB3 HX3 HY3 HG3 HO3 ⊢
      simp only [Act.put, List.setIfInBounds_toArray, List.set_cons_zero, List.set_cons_succ]
      refine wpAny_done (by kernel_rfl) ?_ _
      clear HB0 HX0 HY0 HB1 HX1 HY1 HB2 HX2 HY2
      rename Hid (Below w.heap.size w V3) => HBZ
      rename Hid (V3.heap[g]? = _) => HXZ
      rename Hid (V3.heap[g + 1]? = _) => HYZ
      rename Hid (V3.heap[g3]? = _) => HGZ
      rename Hid (OwnE _ _ _ V3 _ _ _) => HOZ
      generalize V3 = V at *
      rotate_left 1
      refine wp_of_call (ex_call1 (.tmp 138) _ (.slice (some ⟨b, o, none⟩) ps.length c) rfl (by kernel_rfl) (enters_of Tryz.func72 (by kernel_rfl) rfl _ _)) (CLO.out V1 HB1.out) ?_
      rintro e V2 ⟨v9, rfl, ho, hb⟩
      obtain ⟨A9, c9, rfl⟩ := own_shape ho
      have HB2 := Lib.hid (HB1.out.trans (hb.mono HB1.out.size))
      have HX2 := Lib.hid (heap_step HX1.out hb)
      have HY2 := Lib.hid (heap_step HY1.out hb)
      have HG2 := Lib.hid (heap_step HG1.out hb)
      have HO2 := Lib.hid (own_base ho HB1.out.size)
      clear ho hb
      refine ⟨.slice A9 ps.length c9, rfl, ?_⟩
      simp only [Act.put, List.setIfInBounds_toArray, List.set_cons_zero, List.set_cons_succ]
      refine wpAny_only 1 (by kernel_rfl) rfl (by kernel_rfl) ?_
      refine wp_of_val (v := .int .i64 fmt) (ex_load 3 _ (.pointer (some ⟨g, 0, none⟩)) _ rfl (by kernel_rfl) (ldT_int (bx2 HX2.out).1)) ?_
      simp only [Act.put, List.setIfInBounds_toArray, List.set_cons_zero, List.set_cons_succ]
      refine wpAny_at (i := 5) (v := .agg #[.int .i64 fmt, .slice A9 ps.length c9]) (some 140) rfl rfl (by kernel_rfl) (by kernel_rfl) (by kernel_rfl) (fun _ _ _ h => h) (by kernel_rfl) (fun _ => ex_buildD (.tmp 136) (.tmp 139) fmt A9 ps.length c9 rfl (by kernel_rfl) (by kernel_rfl)) ?_
      simp only [Act.put, List.setIfInBounds_toArray, List.set_cons_zero, List.set_cons_succ]
      refine wpAny_only 7 (by kernel_rfl) rfl (by kernel_rfl) ?_
      refine wp_storeD (.tmp 23) (.tmp 140) rfl rfl g3 fmt A9 ps.length c9 (by kernel_rfl) (by kernel_rfl) HG2.out ?_
      have HB3 := Lib.hid ((HB2.out.setCell (p := ⟨g3, 0, none⟩) (Nat.le_trans hgw (Nat.le_of_lt hg3)) (.int .i64 fmt)).setCell (p := ⟨g3, 1, none⟩) (Nat.le_trans hgw (Nat.le_of_lt hg3)) (.slice A9 ps.length c9))
      have HX3 := Lib.hid ((storeD_out (u0 := .int .i64 fmt) (u1 := .slice A9 ps.length c9) (Nat.ne_of_lt hg3)).trans HX2.out)
      have HY3 := Lib.hid ((storeD_out (u0 := .int .i64 fmt) (u1 := .slice A9 ps.length c9) (Nat.ne_of_lt hg4)).trans HY2.out)
      have HG3 := Lib.hid (storeD_at (u0 := .int .i64 fmt) (u1 := .slice A9 ps.length c9) HG2.out)
      have HO3 := Lib.hid (own_same (w' := (V2.setCell ⟨g3, 0, none⟩ (.int .i64 fmt)).setCell ⟨g3, 1, none⟩ (.slice A9 ps.length c9)) HO2.out fun j hj => storeD_out (fun e => own_apart HO2.out HG2.out (by decide) j hj e))
      generalize (V2.setCell ⟨g3, 0, none⟩ (.int .i64 fmt)).setCell ⟨g3, 1, none⟩ (.slice A9 ps.length c9) = V3 at HB3 HX3 HY3 HG3 HO3 ⊢
      simp only [Act.put, List.setIfInBounds_toArray, List.set_cons_zero, List.set_cons_succ]
      refine wpAny_done (by kernel_rfl) ?_ _
      clear HB0 HX0 HY0 HB1 HX1 HY1 HB2 HX2 HY2
      rename Hid (Below w.heap.size w V3) => HBZ
      rename Hid (V3.heap[g]? = _) => HXZ
      rename Hid (V3.heap[g + 1]? = _) => HYZ
      rename Hid (V3.heap[g3]? = _) => HGZ
      rename Hid (OwnE _ _ _ V3 _ _ _) => HOZ
      generalize V3 = V at *
      rotate_left 1
      refine wp_of_valw (ex_allocD rfl) ?_
      have hal := (Below.refl V0.heap.size V0).alloc (Nat.le_refl _) (.cells #[.int .i64 0, .slice none 0 0] 41)
      have HB1 := Lib.hid (HB0.out.trans (hal.mono HB0.out.size))
      have HX1 := Lib.hid (heap_step HX0.out hal)
      have HY1 := Lib.hid (heap_step HY0.out hal)
      have HG1 : Hid ((V0.alloc (.cells #[.int .i64 0, .slice none 0 0] 41)).heap[V0.heap.size]? = some (.cells #[.int .i64 0, .slice none 0 0] 41)) := heap_alloc_new V0 _
      have hg3 : g < V0.heap.size := heap_lt HX0.out
      have hg4 : g + 1 < V0.heap.size := heap_lt HY0.out
      clear hal
      generalize V0.heap.size = g3 at HG1 hg3 hg4 ⊢
      generalize V0.alloc (.cells #[.int .i64 0, .slice none 0 0] 41) = V1 at HB1 HX1 HY1 HG1 ⊢
      simp only [Act.put, List.setIfInBounds_toArray, List.set_cons_zero, List.set_cons_succ]
      refine wpAny_two 1 3 (by kernel_rfl) rfl rfl (by kernel_rfl) (by kernel_rfl) ?_ ?_
      refine wp_of_val (v := .int .i64 fmt) (ex_load 3 _ (.pointer (some ⟨g, 0, none⟩)) _ rfl (by kernel_rfl) (ldT_int (bx2 HX1.out).1)) ?_
      simp only [Act.put, List.setIfInBounds_toArray, List.set_cons_zero, List.set_cons_succ]
      refine wpAny_only 3 (by kernel_rfl) rfl (by kernel_rfl) ?_
      refine wp_of_val (v := .slice (some ⟨b, o, none⟩) ps.length c) (ex_load 39 _ (.pointer (some ⟨g, 1, none⟩)) _ rfl (by kernel_rfl) (ldT_parts (bx2 HX1.out).2.1)) ?_
      simp only [Act.put, List.setIfInBounds_toArray, List.set_cons_zero, List.set_cons_succ]
      refine wpAny_only 4 (by kernel_rfl) rfl (by kernel_rfl) ?_
      refine wp_of_call (ex_call1 (.tmp 138) _ (.slice (some ⟨b, o, none⟩) ps.length c) rfl (by kernel_rfl) (enters_of Tryz.func72 (by kernel_rfl) rfl _ _)) (CLO.out V1 HB1.out) ?_
      rintro e V2 ⟨v9, rfl, ho, hb⟩
      obtain ⟨A9, c9, rfl⟩ := own_shape ho
      have HB2 := Lib.hid (HB1.out.trans (hb.mono HB1.out.size))
      have HX2 := Lib.hid (heap_step HX1.out hb)
      have HY2 := Lib.hid (heap_step HY1.out hb)
      have HG2 := Lib.hid (heap_step HG1.out hb)
      have HO2 := Lib.hid (own_base ho HB1.out.size)
      clear ho hb
      refine ⟨.slice A9 ps.length c9, rfl, ?_⟩
      simp only [Act.put, List.setIfInBounds_toArray, List.set_cons_zero, List.set_cons_succ]
      refine wpAny_at (i := 5) (v := .agg #[.int .i64 fmt, .slice A9 ps.length c9]) (some 140) rfl rfl (by kernel_rfl) (by kernel_rfl) (by kernel_rfl) (fun _ _ _ h => h) (by kernel_rfl) (fun _ => ex_buildD (.tmp 136) (.tmp 139) fmt A9 ps.length c9 rfl (by kernel_rfl) (by kernel_rfl)) ?_
      simp only [Act.put, List.setIfInBounds_toArray, List.set_cons_zero, List.set_cons_succ]
      refine wpAny_only 7 (by kernel_rfl) rfl (by kernel_rfl) ?_
      refine wp_storeD (.tmp 23) (.tmp 140) rfl rfl g3 fmt A9 ps.length c9 (by kernel_rfl) (by kernel_rfl) HG2.out ?_
      have HB3 := Lib.hid ((HB2.out.setCell (p := ⟨g3, 0, none⟩) (Nat.le_trans hgw (Nat.le_of_lt hg3)) (.int .i64 fmt)).setCell (p := ⟨g3, 1, none⟩) (Nat.le_trans hgw (Nat.le_of_lt hg3)) (.slice A9 ps.length c9))
      have HX3 := Lib.hid ((storeD_out (u0 := .int .i64 fmt) (u1 := .slice A9 ps.length c9) (Nat.ne_of_lt hg3)).trans HX2.out)
      have HY3 := Lib.hid ((storeD_out (u0 := .int .i64 fmt) (u1 := .slice A9 ps.length c9) (Nat.ne_of_lt hg4)).trans HY2.out)
      have HG3 := Lib.hid (storeD_at (u0 := .int .i64 fmt) (u1 := .slice A9 ps.length c9) HG2.out)
      have HO3 := Lib.hid (own_same (w' := (V2.setCell ⟨g3, 0, none⟩ (.int .i64 fmt)).setCell ⟨g3, 1, none⟩ (.slice A9 ps.length c9)) HO2.out fun j hj => storeD_out (fun e => own_apart HO2.out HG2.out (by decide) j hj e))
      generalize (V2.setCell ⟨g3, 0, none⟩ (.int .i64 fmt)).setCell ⟨g3, 1, none⟩ (.slice A9 ps.length c9) = V3 at HB3 HX3 HY3 HG3 HO3 ⊢
      simp only [Act.put, List.setIfInBounds_toArray, List.set_cons_zero, List.set_cons_succ]
      refine wpAny_done (by kernel_rfl) ?_ _
      clear HB0 HX0 HY0 HB1 HX1 HY1 HB2 HX2 HY2
      rename Hid (Below w.heap.size w V3) => HBZ
      rename Hid (V3.heap[g]? = _) => HXZ
      rename Hid (V3.heap[g + 1]? = _) => HYZ
      rename Hid (V3.heap[g3]? = _) => HGZ
      rename Hid (OwnE _ _ _ V3 _ _ _) => HOZ
      generalize V3 = V at *
      rotate_left 1
      refine wp_of_val (v := .slice (some ⟨b, o, none⟩) ps.length c) (ex_load 39 _ (.pointer (some ⟨g, 1, none⟩)) _ rfl (by kernel_rfl) (ldT_parts (bx2 HX1.out).2.1)) ?_
      simp only [Act.put, List.setIfInBounds_toArray, List.set_cons_zero, List.set_cons_succ]
      refine wpAny_two 1 4 (by kernel_rfl) rfl rfl (by kernel_rfl) (by kernel_rfl) ?_ ?_
      refine wp_of_val (v := .int .i64 fmt) (ex_load 3 _ (.pointer (some ⟨g, 0, none⟩)) _ rfl (by kernel_rfl) (ldT_int (bx2 HX1.out).1)) ?_
      simp only [Act.put, List.setIfInBounds_toArray, List.set_cons_zero, List.set_cons_succ]
      refine wpAny_only 4 (by kernel_rfl) rfl (by kernel_rfl) ?_
      refine wp_of_call (ex_call1 (.tmp 138) _ (.slice (some ⟨b, o, none⟩) ps.length c) rfl (by kernel_rfl) (enters_of Tryz.func72 (by kernel_rfl) rfl _ _)) (CLO.out V1 HB1.out) ?_
      rintro e V2 ⟨v9, rfl, ho, hb⟩
      obtain ⟨A9, c9, rfl⟩ := own_shape ho
      have HB2 := Lib.hid (HB1.out.trans (hb.mono HB1.out.size))
      have HX2 := Lib.hid (heap_step HX1.out hb)
      have HY2 := Lib.hid (heap_step HY1.out hb)
      have HG2 := Lib.hid (heap_step HG1.out hb)
      have HO2 := Lib.hid (own_base ho HB1.out.size)
      clear ho hb
      refine ⟨.slice A9 ps.length c9, rfl, ?_⟩
      simp only [Act.put, List.setIfInBounds_toArray, List.set_cons_zero, List.set_cons_succ]
      refine wpAny_at (i := 5) (v := .agg #[.int .i64 fmt, .slice A9 ps.length c9]) (some 140) rfl rfl (by kernel_rfl) (by kernel_rfl) (by kernel_rfl) (fun _ _ _ h => h) (by kernel_rfl) (fun _ => ex_buildD (.tmp 136) (.tmp 139) fmt A9 ps.length c9 rfl (by kernel_rfl) (by kernel_rfl)) ?_
      simp only [Act.put, List.setIfInBounds_toArray, List.set_cons_zero, List.set_cons_succ]
      refine wpAny_only 7 (by kernel_rfl) rfl (by kernel_rfl) ?_
      refine wp_storeD (.tmp 23) (.tmp 140) rfl rfl g3 fmt A9 ps.length c9 (by kernel_rfl) (by kernel_rfl) HG2.out ?_
      have HB3 := Lib.hid ((HB2.out.setCell (p := ⟨g3, 0, none⟩) (Nat.le_trans hgw (Nat.le_of_lt hg3)) (.int .i64 fmt)).setCell (p := ⟨g3, 1, none⟩) (Nat.le_trans hgw (Nat.le_of_lt hg3)) (.slice A9 ps.length c9))
      have HX3 := Lib.hid ((storeD_out (u0 := .int .i64 fmt) (u1 := .slice A9 ps.length c9) (Nat.ne_of_lt hg3)).trans HX2.out)
      have HY3 := Lib.hid ((storeD_out (u0 := .int .i64 fmt) (u1 := .slice A9 ps.length c9) (Nat.ne_of_lt hg4)).trans HY2.out)
      have HG3 := Lib.hid (storeD_at (u0 := .int .i64 fmt) (u1 := .slice A9 ps.length c9) HG2.out)
      have HO3 := Lib.hid (own_same (w' := (V2.setCell ⟨g3, 0, none⟩ (.int .i64 fmt)).setCell ⟨g3, 1, none⟩ (.slice A9 ps.length c9)) HO2.out fun j hj => storeD_out (fun e => own_apart HO2.out HG2.out (by decide) j hj e))
      generalize (V2.setCell ⟨g3, 0, none⟩ (.int .i64 fmt)).setCell ⟨g3, 1, none⟩ (.slice A9 ps.length c9) = V3 at HB3 HX3 HY3 HG3 HO3 ⊢
      simp only [Act.put, List.setIfInBounds_toArray, List.set_cons_zero, List.set_cons_succ]
      refine wpAny_done (by kernel_rfl) ?_ _
      clear HB0 HX0 HY0 HB1 HX1 HY1 HB2 HX2 HY2
      rename Hid (Below w.heap.size w V3) => HBZ
      rename Hid (V3.heap[g]? = _) => HXZ
      rename Hid (V3.heap[g + 1]? = _) => HYZ
      rename Hid (V3.heap[g3]? = _) => HGZ
      rename Hid (OwnE _ _ _ V3 _ _ _) => HOZ
      generalize V3 = V at *
      rotate_left 1
      refine wp_of_call (ex_call1 (.tmp 138) _ (.slice (some ⟨b, o, none⟩) ps.length c) rfl (by kernel_rfl) (enters_of Tryz.func72 (by kernel_rfl) rfl _ _)) (CLO.out V1 HB1.out) ?_
      rintro e V2 ⟨v9, rfl, ho, hb⟩
      obtain ⟨A9, c9, rfl⟩ := own_shape ho
      have HB2 := Lib.hid (HB1.out.trans (hb.mono HB1.out.size))
      have HX2 := Lib.hid (heap_step HX1.out hb)
      have HY2 := Lib.hid (heap_step HY1.out hb)
      have HG2 := Lib.hid (heap_step HG1.out hb)
      have HO2 := Lib.hid (own_base ho HB1.out.size)
      clear ho hb
      refine ⟨.slice A9 ps.length c9, rfl, ?_⟩
      simp only [Act.put, List.setIfInBounds_toArray, List.set_cons_zero, List.set_cons_succ]
      refine wpAny_only 1 (by kernel_rfl) rfl (by kernel_rfl) ?_
      refine wp_of_val (v := .int .i64 fmt) (ex_load 3 _ (.pointer (some ⟨g, 0, none⟩)) _ rfl (by kernel_rfl) (ldT_int (bx2 HX2.out).1)) ?_
      simp only [Act.put, List.setIfInBounds_toArray, List.set_cons_zero, List.set_cons_succ]
      refine wpAny_at (i := 5) (v := .agg #[.int .i64 fmt, .slice A9 ps.length c9]) (some 140) rfl rfl (by kernel_rfl) (by kernel_rfl) (by kernel_rfl) (fun _ _ _ h => h) (by kernel_rfl) (fun _ => ex_buildD (.tmp 136) (.tmp 139) fmt A9 ps.length c9 rfl (by kernel_rfl) (by kernel_rfl)) ?_
      simp only [Act.put, List.setIfInBounds_toArray, List.set_cons_zero, List.set_cons_succ]
      refine wpAny_only 7 (by kernel_rfl) rfl (by kernel_rfl) ?_
      refine wp_storeD (.tmp 23) (.tmp 140) rfl rfl g3 fmt A9 ps.length c9 (by kernel_rfl) (by kernel_rfl) HG2.out ?_
      have HB3 := Lib.hid ((HB2.out.setCell (p := ⟨g3, 0, none⟩) (Nat.le_trans hgw (Nat.le_of_lt hg3)) (.int .i64 fmt)).setCell (p := ⟨g3, 1, none⟩) (Nat.le_trans hgw (Nat.le_of_lt hg3)) (.slice A9 ps.length c9))
      have HX3 := Lib.hid ((storeD_out (u0 := .int .i64 fmt) (u1 := .slice A9 ps.length c9) (Nat.ne_of_lt hg3)).trans HX2.out)
      have HY3 := Lib.hid ((storeD_out (u0 := .int .i64 fmt) (u1 := .slice A9 ps.length c9) (Nat.ne_of_lt hg4)).trans HY2.out)
      have HG3 := Lib.hid (storeD_at (u0 := .int .i64 fmt) (u1 := .slice A9 ps.length c9) HG2.out)
      have HO3 := Lib.hid (own_same (w' := (V2.setCell ⟨g3, 0, none⟩ (.int .i64 fmt)).setCell ⟨g3, 1, none⟩ (.slice A9 ps.length c9)) HO2.out fun j hj => storeD_out (fun e => own_apart HO2.out HG2.out (by decide) j hj e))
      generalize (V2.setCell ⟨g3, 0, none⟩ (.int .i64 fmt)).setCell ⟨g3, 1, none⟩ (.slice A9 ps.length c9) = V3 at HB3 HX3 HY3 HG3 HO3 ⊢
      simp only [Act.put, List.setIfInBounds_toArray, List.set_cons_zero, List.set_cons_succ]
      refine wpAny_done (by kernel_rfl) ?_ _
      clear HB0 HX0 HY0 HB1 HX1 HY1 HB2 HX2 HY2
      rename Hid (Below w.heap.size w V3) => HBZ
      rename Hid (V3.heap[g]? = _) => HXZ
      rename Hid (V3.heap[g + 1]? = _) => HYZ
      rename Hid (V3.heap[g3]? = _) => HGZ
      rename Hid (OwnE _ _ _ V3 _ _ _) => HOZ
      generalize V3 = V at *
      all_goals (
        obtain ⟨bk, rfl, hbk⟩ := own_someD HOZ.out (by omega)
        have r2 : V.cell? ⟨bk, k * 3 + 2, none⟩ = some (.string raw) := by
          rw [World.ownsRow.cellAt HOZ.out (k * 3 + 2) (by omega), flat_get ptC 3 ptC_three ps k 2 ps[k] (List.getElem?_eq_getElem hkl) (by decide)]
          show some (Value.string ps[k].raw) = _
          rw [HH.out.raw, hraw.out]
        have f2 := World.ownsRow.frozenAt HOZ.out (k * 3 + 2)
        have hst := (World.ownsRow.stored HOZ.out (k * 3 + 2) (.string nb)).1
        have HOS : Hid (OwnE 52 ptC 3 (V.setCell ⟨bk, k * 3 + 2, none⟩ (.string nb)) w.heap.size (.slice (some ⟨bk, 0, none⟩) ps.length c9) (ps.set k ⟨true, ps[k].key, nb⟩)) := by
          show OwnE _ _ _ _ _ _ _
          unfold OwnE
          rw [List.length_set, ← flat_set ps k hkl nb HH.out.un]
          exact hst
        have hgb : g3 ≠ bk := fun e => own_apart HOZ.out HGZ.out (by decide) bk rfl e.symm
        have hyb : g + 1 ≠ bk := fun e => own_apart HOZ.out HYZ.out (by decide) bk rfl e.symm
        have HGS : Hid ((V.setCell ⟨bk, k * 3 + 2, none⟩ (.string nb)).heap[g3]? = some (.cells #[.int .i64 fmt, .slice (some ⟨bk, 0, none⟩) ps.length c9] 41)) := (Below.heap_setCell _ _ _ _ hgb).trans HGZ.out
        have HYS : Hid ((V.setCell ⟨bk, k * 3 + 2, none⟩ (.string nb)).heap[g + 1]? = some (.cells #[.int .i64 0, .slice none 0 0] 41)) := (Below.heap_setCell _ _ _ _ hyb).trans HYZ.out
        have HBS := Lib.hid (HBZ.out.setCell (p := ⟨bk, k * 3 + 2, none⟩) hbk (.string nb))
        have hps2 : (ps.set k ⟨true, ps[k].key, nb⟩).length = ps.length := List.length_set
        have hnsz := HH.out.nsz
        rw [hNEW.out, hnb.out] at hnsz
        have CB := Lib.hid (fun (W : World) (hr : RdE ptC 3 W (.slice (some ⟨bk, 0, none⟩) ps.length c9) (ps.set k ⟨true, ps[k].key, nb⟩)) => bytes_any fmt (ps.set k ⟨true, ps[k].key, nb⟩) (some ⟨bk, 0, none⟩) c9 W (by rw [hps2]; exact hr) (by rw [hps2]; omega) (by omega))
        rw [hps2] at CB
        have hbz : (ofL (bytesP (ps.set k ⟨true, ps[k].key, nb⟩))).size ≤ 65536 := by rw [size_ofL]; exact hnsz
        generalize ofL (bytesP (ps.set k ⟨true, ps[k].key, nb⟩)) = bb at CB hbz
        obtain ⟨g0, g1, _⟩ := bx2 HGZ.out
        have HRD := Lib.hid (OwnE.rd ptC_three HOS.out)
        clear hst hnsz hps2
        go_upto_region 32 with fail
        generalize V.setCell ⟨bk, k * 3 + 2, none⟩ (.string nb) = V9 at HOS HGS HYS HBS HRD ⊢
        obtain ⟨h0, h1, _⟩ := bx2 HGS.out
        clear g0 g1 r2 f2 HGZ HYZ HOZ HBZ
        go_wp2_with (go_at_call 24; refine (CB.out _ (by exact HRD.out)).mono ?_; rintro e Vb ⟨rfl, hbb⟩; have HBb := Lib.hid (HBS.out.trans (hbb.mono HBS.out.size)); have HYb := Lib.hid (heap_step HYS.out hbb); have HOb := Lib.hid (own_step HOS.out hbb); obtain ⟨k0, k1, _⟩ := bx2 (heap_step HGS.out hbb); obtain ⟨l0, l1, m0, m1⟩ := bx2 (heap_step HYS.out hbb); clear hbb)
        refine bodyPost_ret (res_doc2 rfl _ _ (g + 1) fmt (some ⟨bk, 0, none⟩) ps.length c9 _ rfl rfl (by go_simp) (by go_simp)) rfl ?_
        rw [HRR.out]
        refine ⟨some ⟨bk, 0, none⟩, c9, rfl, ?_, (HBb.out.setCell (p := ⟨g + 1, 0, none⟩) (by show _ ≤ g + 1; omega) _).setCell (p := ⟨g + 1, 1, none⟩) (by show _ ≤ g + 1; omega) _⟩
        rw [hNEW.out, hnb.out]
        have := (own_same (w' := (Vb.setCell ⟨g + 1, 0, none⟩ (.int .i64 fmt)).setCell ⟨g + 1, 1, none⟩ (.slice (some ⟨bk, 0, none⟩) ps.length c9)) HOb.out fun j hj => storeD_out (fun e => own_apart HOb.out HYb.out (by decide) j hj e))
        unfold OwnE at this ⊢
        rw [List.length_set] at this ⊢
        exact this)

end Go.Proofs.YtfkojnofbpdjdaaGreatDoor

namespace Go.Proofs.YtfkojnofbpdjdaaGreatDoor
set_option maxRecDepth 100000
open Go.RowKit

def RetRules (w : World) (rs : List Ru) (e : Ending) (w' : World) : Prop := ∃ v, e = .returned v ∧ RdRu w' v rs ∧ Below w.heap.size w w'

end Go.Proofs.YtfkojnofbpdjdaaGreatDoor

namespace Go.Proofs.YtfkojnofbpdjdaaGreatDoor
set_option maxRecDepth 100000
open Go.RowKit

def blkL (v : Value) : List Nat := v.ownBlock.toList
theorem mem_blkL {v : Value} {b : Nat} : b ∈ blkL v ↔ v.ownBlock = some b := by unfold blkL; rw [Option.mem_toList]
theorem Keep.mono {X Y : List Nat} {w : World} {φ : World → Prop} (h : Keep Y w φ) (hXY : ∀ b ∈ X, b ∈ Y) : Keep X w φ :=
  fun u hu hk => h u hu fun b hb hY => hk b hb (fun hx => hY (hXY b hx))

/-- Tables under way; xs: the row's cells; rv: the rules of the last table; ys: their cells. -/
structure TS (eT eR : TypeId) (B : Nat) (w : World) (v : Value) (ts : List Tb) (xs : List TbV) (rv : Sl) (ys : List RuV) : Prop where
  own : OwnE eT tbC 3 w B v xs
  len : xs.length = ts.length
  ident : ∀ (i : Nat) (x : TbV) (t : Tb), xs[i]? = some x → ts[i]? = some t → x.nm = t.nm ∧ x.pa = t.pa
  front : ∀ (i : Nat) (x : TbV) (t : Tb), xs[i]? = some x → ts[i]? = some t → i + 1 < ts.length → Keep (blkL v ++ blkL rv.v) w fun u => RdRu u x.r.v t.rs
  rown : OwnE eR ruC 3 w B rv.v ys
  apart : ∀ k, v.ownBlock = some k → rv.v.ownBlock ≠ some k
  last : ∀ (i : Nat) (x : TbV) (t : Tb), xs[i]? = some x → ts[i]? = some t → i + 1 = ts.length → x.r = rv ∧ ys.length = t.rs.length ∧
    ∀ (j : Nat) (y : RuV) (r : Ru), ys[j]? = some y → t.rs[j]? = some r → y.b = r.br ∧ Keep (blkL v ++ blkL rv.v) w fun u => RdE atC 34 u y.u.v r.bf ∧ RdE atC 34 u y.t.v r.af

section
variable {eT eR : TypeId} {B : Nat} {w w' : World} {v : Value} {ts : List Tb} {xs : List TbV} {rv : Sl} {ys : List RuV}
theorem TS.start : TS eT eR B w (.slice none 0 0) [] [] ⟨none, 0, 0⟩ [] where
  own := OwnE.nil
  len := rfl
  ident := fun _ _ _ h => by simp at h
  front := fun _ _ _ h => by simp at h
  rown := OwnE.nil
  apart := fun k h => by simp [Value.ownBlock] at h
  last := fun _ _ _ h => by simp at h
/-- The rules of the last table. -/
theorem TS.lastRu (h : TS eT eR B w v ts xs rv ys) (i : Nat) (x : TbV) (t : Tb) (hx : xs[i]? = some x) (ht : ts[i]? = some t) (hi : i + 1 = ts.length) {X : List Nat} (hX : ∀ b ∈ X, b ∈ blkL v) : Keep X w fun u => RdRu u x.r.v t.rs := by
  obtain ⟨e, hl, hy⟩ := h.last i x t hx ht hi
  subst e
  have h1 := OwnE.keepX (X := X) ruC_len h.rown (fun b hb => .inr (h.apart b (mem_blkL.1 (hX b hb))))
  intro u hu hk
  refine ⟨ys, h1 u hu hk, hl, fun j y r hyj hrj => ?_⟩
  have h2 := hy j y r hyj hrj
  exact ⟨h2.1, (h2.2.mono (fun b hb => List.mem_append_left _ (hX b hb))) u hu hk⟩
theorem TS.rd (h : TS eT eR B w v ts xs rv ys) : RdTb w v ts := by
  refine ⟨xs, h.own.rd tbC_len, h.len, fun i x t hx ht => ⟨(h.ident i x t hx ht).1, (h.ident i x t hx ht).2, ?_⟩⟩
  have hi : i < ts.length := (List.getElem?_eq_some_iff.1 ht).1
  by_cases hl : i + 1 < ts.length
  · exact (h.front i x t hx ht hl).now
  · exact (h.lastRu i x t hx ht (by omega) (X := []) (by simp)).now
/-- The world turns, but for the rows' blocks. -/
theorem TS.keep (h : TS eT eR B w v ts xs rv ys) (hs : w.heap.size ≤ w'.heap.size) (hk : ∀ b, b < w.heap.size → w'.heap[b]? = w.heap[b]?) : TS eT eR B w' v ts xs rv ys where
  own := own_same h.own fun k hk2 => hk k (h.own.lt k hk2).2
  len := h.len
  ident := h.ident
  front := fun i x t hx ht hl => (h.front i x t hx ht hl).step hs fun b hb hX => ⟨hk b hb, hX⟩
  rown := own_same h.rown fun k hk2 => hk k (h.rown.lt k hk2).2
  apart := h.apart
  last := fun i x t hx ht hl => ⟨(h.last i x t hx ht hl).1, (h.last i x t hx ht hl).2.1, fun j y r hy hr => ⟨((h.last i x t hx ht hl).2.2 j y r hy hr).1, ((h.last i x t hx ht hl).2.2 j y r hy hr).2.step hs fun b hb hX => ⟨hk b hb, hX⟩⟩⟩
theorem TS.below (h : TS eT eR B w v ts xs rv ys) {C : Nat} (hb : Below C w w') (hC : w.heap.size ≤ C) : TS eT eR B w' v ts xs rv ys :=
  h.keep hb.size fun b hlt => hb.block b (Nat.lt_of_lt_of_le hlt hC)
/-- A table more. -/
theorem TS.push (h : TS eT eR B w v ts xs rv ys) {v' : Value} (nm pa : ByteArray) (hown : OwnE eT tbC 3 w' B v' (xs ++ [⟨nm, pa, ⟨none, 0, 0⟩⟩])) (hg : w.grownBy w' v.ownBlock) (hat : v'.ownBlock = v.ownBlock ∨ v'.ownBlock = some w.heap.size) :
    TS eT eR B w' v' (ts ++ [⟨nm, pa, []⟩]) (xs ++ [⟨nm, pa, ⟨none, 0, 0⟩⟩]) ⟨none, 0, 0⟩ [] := by
  have hnew : ∀ b, b < w.heap.size → b ∉ blkL v → w'.heap[b]? = w.heap[b]? ∧ b ∉ blkL v' ++ blkL (Sl.v ⟨none, 0, 0⟩) := fun b hb hX => by
    refine ⟨hg.block b hb (fun e => hX (mem_blkL.2 e.symm)), fun hm => ?_⟩
    rcases List.mem_append.1 hm with hm | hm
    · have := mem_blkL.1 hm
      rcases hat with e | e
      · exact hX (mem_blkL.2 (e ▸ this))
      · rw [e] at this; injection this with this; omega
    · have := mem_blkL.1 hm
      simp [Sl.v, Value.ownBlock] at this
  have hl : ∀ (i : Nat) (x : TbV) (t : Tb), (xs ++ [⟨nm, pa, ⟨none, 0, 0⟩⟩])[i]? = some x → (ts ++ [⟨nm, pa, []⟩])[i]? = some t → (i < ts.length ∧ xs[i]? = some x ∧ ts[i]? = some t) ∨ (i = ts.length ∧ x = ⟨nm, pa, ⟨none, 0, 0⟩⟩ ∧ t = ⟨nm, pa, []⟩) := fun i x t hx ht => by
    have hi : i < ts.length + 1 := by have := (List.getElem?_eq_some_iff.1 ht).1; simpa using this
    by_cases h1 : i < ts.length
    · refine .inl ⟨h1, ?_, ?_⟩
      · rw [List.getElem?_append_left (by rw [h.len]; exact h1)] at hx; exact hx
      · rw [List.getElem?_append_left h1] at ht; exact ht
    · have h2 : i = ts.length := by omega
      subst h2
      refine .inr ⟨rfl, ?_, ?_⟩
      · rw [List.getElem?_append_right (by rw [h.len]; exact Nat.le_refl _), h.len, Nat.sub_self] at hx
        simpa using hx.symm
      · rw [List.getElem?_append_right (Nat.le_refl _), Nat.sub_self] at ht
        simpa using ht.symm
  refine ⟨hown, by simp [h.len], fun i x t hx ht => ?_, fun i x t hx ht hi => ?_, OwnE.nil, fun k _ => by simp [Sl.v, Value.ownBlock], fun i x t hx ht hi => ?_⟩
  · rcases hl i x t hx ht with ⟨_, h2, h3⟩ | ⟨_, rfl, rfl⟩
    · exact h.ident i x t h2 h3
    · exact ⟨rfl, rfl⟩
  · rcases hl i x t hx ht with ⟨h1, h2, h3⟩ | ⟨h1, _, _⟩
    · have hk : Keep (blkL v) w fun u => RdRu u x.r.v t.rs := by
        by_cases h4 : i + 1 < ts.length
        · exact (h.front i x t h2 h3 h4).mono fun b hb => List.mem_append_left _ hb
        · exact h.lastRu i x t h2 h3 (by omega) fun b hb => hb
      exact hk.step hg.size hnew
    · simp at hi; omega
  · rcases hl i x t hx ht with ⟨h1, _, _⟩ | ⟨_, rfl, rfl⟩
    · simp at hi; omega
    · exact ⟨rfl, rfl, fun j y r hy => by simp at hy⟩
theorem addLast_get (r : Ru) : ∀ (ts : List Tb) (n : Nat), ts.length = n + 1 → ∀ (i : Nat) (t : Tb), (addLast ts r)[i]? = some t → (i < n ∧ ts[i]? = some t) ∨ (i = n ∧ ∃ t0, ts[n]? = some t0 ∧ t = ⟨t0.nm, t0.pa, t0.rs ++ [r]⟩)
  | [], n, h, i, t, ht => by simp at h
  | [a], n, h, i, t, ht => by
    obtain rfl : n = 0 := by simpa using h.symm
    cases i with
    | zero => exact .inr ⟨rfl, a, rfl, by simpa [addLast] using ht.symm⟩
    | succ i => simp [addLast] at ht
  | a :: b :: ts, n, h, i, t, ht => by
    obtain ⟨m, rfl⟩ : ∃ m, n = m + 1 := ⟨n - 1, by simp at h; omega⟩
    cases i with
    | zero => exact .inl ⟨by omega, by simpa [addLast] using ht⟩
    | succ i =>
      rcases addLast_get r (b :: ts) m (by simp at h ⊢; omega) i t (by simpa [addLast] using ht) with ⟨h1, h2⟩ | ⟨h1, t0, h2, h3⟩
      · exact .inl ⟨by omega, h2⟩
      · exact .inr ⟨by omega, t0, h2, h3⟩
theorem addLast_len (r : Ru) : ∀ ts : List Tb, (addLast ts r).length = ts.length
  | [] => rfl
  | [_] => rfl
  | a :: b :: ts => by rw [addLast, List.length_cons, addLast_len r (b :: ts)]; rfl
theorem flat_set2 : ∀ (xs : List TbV) (n : Nat) (x : TbV) (r : Sl), xs[n]? = some x → (xs.flatMap tbC).set (n * 3 + 2) r.v = (xs.set n ⟨x.nm, x.pa, r⟩).flatMap tbC
  | [], n, x, r, h => by simp at h
  | a :: xs, 0, x, r, h => by
    obtain rfl : a = x := by simpa using h
    simp [tbC]
  | a :: xs, n + 1, x, r, h => by
    have ih := flat_set2 xs n x r (by simpa using h)
    rw [List.flatMap_cons, List.set_cons_succ, List.flatMap_cons, ← ih, List.set_append_right _ _ (by rw [tbC_len]; omega), tbC_len, show (n + 1) * 3 + 2 - 3 = n * 3 + 2 by omega]
/-- A rule more in the last table. -/
theorem TS.rule (h : TS eT eR B w v ts xs rv ys) (n : Nat) (hn : ts.length = n + 1) (g c : Nat) (hv : v = .slice (some ⟨g, 0, none⟩) (n + 1) c) (x : TbV) (hx : xs[n]? = some x) (r : Ru) (y : RuV) (hy : y.b = r.br)
    (hk : Keep (blkL v ++ blkL rv.v) w fun u => RdE atC 34 u y.u.v r.bf ∧ RdE atC 34 u y.t.v r.af) {rv' : Sl} (hown : OwnE eR ruC 3 w' B rv'.v (ys ++ [y])) (hg : w.grownBy w' rv.v.ownBlock) (hat : rv'.v.ownBlock = rv.v.ownBlock ∨ rv'.v.ownBlock = some w.heap.size) :
    TS eT eR B (w'.setCell ⟨g, n * 3 + 2, none⟩ rv'.v) v (addLast ts r) (xs.set n ⟨x.nm, x.pa, rv'⟩) rv' (ys ++ [y]) := by
  have hgb : v.ownBlock = some g := by rw [hv]; rfl
  have hgl := h.own.lt g hgb
  have hrg := h.apart g hgb
  have hrg' : rv'.v.ownBlock ≠ some g := by
    rcases hat with e | e
    · rw [e]; exact hrg
    · rw [e]; intro e2; injection e2 with e2; omega
  have hnew : ∀ b, b < w.heap.size → b ∉ blkL v ++ blkL rv.v → (w'.setCell ⟨g, n * 3 + 2, none⟩ rv'.v).heap[b]? = w.heap[b]? ∧ b ∉ blkL v ++ blkL rv'.v := fun b hb hX => by
    have h1 : b ≠ g := fun e => hX (List.mem_append_left _ (mem_blkL.2 (e ▸ hgb)))
    have h2 : rv.v.ownBlock ≠ some b := fun e => hX (List.mem_append_right _ (mem_blkL.2 e))
    refine ⟨(heap_setCell_other w' _ b _ h1).trans (hg.block b hb (fun e => h2 e.symm)), fun hm => ?_⟩
    rcases List.mem_append.1 hm with hm | hm
    · exact hX (List.mem_append_left _ hm)
    · have h3 := mem_blkL.1 hm
      rcases hat with e | e
      · exact h2 (e ▸ h3)
      · rw [e] at h3; injection h3 with h3; omega
  have hsz : w.heap.size ≤ (w'.setCell ⟨g, n * 3 + 2, none⟩ rv'.v).heap.size := by
    have := hg.size
    simpa [World.setCell] using this
  have hv1 : OwnE eT tbC 3 w' B v xs := own_same h.own fun k hk2 => by
    rw [hgb] at hk2
    injection hk2 with hk2
    subst hk2
    exact hg.block g hgl.2 (fun e => hrg e.symm)
  have hxl : xs.length = n + 1 := h.len.trans hn
  have hset : ∀ (i : Nat) (z : TbV), (xs.set n ⟨x.nm, x.pa, rv'⟩)[i]? = some z → (i ≠ n ∧ xs[i]? = some z) ∨ (i = n ∧ z = ⟨x.nm, x.pa, rv'⟩) := fun i z hz => by
    by_cases hi : i = n
    · subst hi
      rw [List.getElem?_set_self (by omega)] at hz
      exact .inr ⟨rfl, (Option.some.inj hz).symm⟩
    · rw [List.getElem?_set_ne (fun e => hi e.symm)] at hz
      exact .inl ⟨hi, hz⟩
  refine ⟨?_, by rw [List.length_set, addLast_len]; exact h.len, fun i z t hz ht => ?_, fun i z t hz ht hi => ?_, own_setAt (g := g) hown (fun k hk2 e => hrg' (by rw [hk2, e])) _ _, fun k hk2 => by rw [hgb] at hk2; injection hk2 with hk2; exact hk2 ▸ hrg', fun i z t hz ht hi => ?_⟩
  · have h1 := hv1
    unfold OwnE at h1
    rw [hxl] at h1
    have h0 := h1
    rw [hv] at h0
    have h2 := (h0.stored (n * 3 + 2) rv'.v).1
    unfold OwnE
    rw [List.length_set, hxl, ← flat_set2 xs n x rv' hx, hv]
    exact h2
  · rcases hset i z hz with ⟨h1, h2⟩ | ⟨h1, rfl⟩
    · rcases addLast_get r ts n hn i t ht with ⟨_, h4⟩ | ⟨h3, _⟩
      · exact h.ident i z t h2 h4
      · exact absurd h3 h1
    · rcases addLast_get r ts n hn i t ht with ⟨h3, _⟩ | ⟨_, t0, h4, rfl⟩
      · omega
      · exact h.ident n x t0 hx h4
  · rw [addLast_len, hn] at hi
    rcases hset i z hz with ⟨h1, h2⟩ | ⟨h1, _⟩
    · rcases addLast_get r ts n hn i t ht with ⟨h3, h4⟩ | ⟨h3, _⟩
      · exact (h.front i z t h2 h4 (by omega)).step hsz hnew
      · exact absurd h3 h1
    · omega
  · rw [addLast_len, hn] at hi
    have hin : i = n := by omega
    rcases hset i z hz with ⟨h1, _⟩ | ⟨_, rfl⟩
    · exact absurd hin h1
    · rcases addLast_get r ts n hn i t ht with ⟨h3, _⟩ | ⟨_, t0, h4, rfl⟩
      · omega
      · obtain ⟨_, hl, hy0⟩ := h.last n x t0 hx h4 (by omega)
        refine ⟨rfl, by simp [hl], fun j q p hq hp => ?_⟩
        by_cases hj : j < ys.length
        · rw [List.getElem?_append_left hj] at hq
          rw [List.getElem?_append_left (by omega)] at hp
          exact ⟨(hy0 j q p hq hp).1, (hy0 j q p hq hp).2.step hsz hnew⟩
        · have hj2 : j < ys.length + 1 := by have := (List.getElem?_eq_some_iff.1 hq).1; simpa using this
          obtain rfl : j = ys.length := by omega
          rw [List.getElem?_append_right (Nat.le_refl _), Nat.sub_self] at hq
          rw [List.getElem?_append_right (by omega), hl, Nat.sub_self] at hp
          obtain rfl : y = q := by simpa using hq
          obtain rfl : r = p := by simpa using hp
          exact ⟨hy, hk.step hsz hnew⟩
end

end Go.Proofs.YtfkojnofbpdjdaaGreatDoor

namespace Go.Proofs.YtfkojnofbpdjdaaGreatDoor
set_option maxRecDepth 100000
open Go.RowKit

end Go.Proofs.YtfkojnofbpdjdaaGreatDoor

namespace Go.Proofs.YtfkojnofbpdjdaaGreatDoor
set_option maxRecDepth 100000
open Go.RowKit

def atE (m : Int) (b : Bool) : Array Value := #[.int .u8 0, .int .u8 0, .int .u8 0, .int .u8 0, .int .u8 0, .int .u8 0, .int .u8 0, .int .u8 0, .int .u8 0, .int .u8 0, .int .u8 0, .int .u8 0, .int .u8 0, .int .u8 0, .int .u8 0, .int .u8 0, .int .u8 0, .int .u8 0, .int .u8 0, .int .u8 0, .int .u8 0, .int .u8 0, .int .u8 0, .int .u8 0, .int .u8 0, .int .u8 0, .int .u8 0, .int .u8 0, .int .u8 0, .int .u8 0, .int .u8 0, .int .u8 0, .int .i64 m, .bool b]
theorem AtIn.lt {w : World} {g : Nat} {x : At} (h : AtIn w g x) : g < w.heap.size := (Array.getElem?_eq_some_iff.1 h).1
theorem But.bel {g : Nat} {a b c : World} (h : But g a b) (k : Below a.heap.size b c) (hs : a.heap.size ≤ b.heap.size) : But g a c :=
  ⟨k.os.trans h.os, k.tape.trans h.tape, k.output.trans h.output, Nat.le_trans hs k.size, fun i hi hn => (k.block i hi).trans (h.block i hi hn)⟩
theorem AtIn.setSet {w : World} {g : Nat} {p : Nat → Bool} {mn : Int} {many : Bool} (h : AtIn w g ⟨p, mn, many⟩) (q : Nat → Bool) (k : Nat) (hk : k < 32) (hq : ∀ i, i < 32 → i ≠ k → byteOf q i = byteOf p i) : AtIn (w.setCell ⟨g, k, none⟩ (.int .u8 (byteOf q k : Nat))) g ⟨q, mn, many⟩ := by
  unfold AtIn at *
  rw [heap_setCell_same w g k _ _ _ h]
  congr 2
  have h1 := setC_set p q k hk hq
  rw [List.setIfInBounds_toArray] at h1 ⊢
  have h2 : (setC p).set k (.int .u8 (byteOf q k : Nat)) = setC q := by simpa using h1
  unfold atC
  rw [List.set_append_left _ _ (by rw [setC_length]; exact hk), h2]
end Go.Proofs.YtfkojnofbpdjdaaGreatDoor

namespace Go.Proofs.YtfkojnofbpdjdaaGreatDoor
set_option maxRecDepth 100000
open Go.RowKit

/-- Rules under way; ys: the row's cells; X: other blocks that may change. -/
structure RS (eR : TypeId) (X : List Nat) (B : Nat) (w : World) (v : Value) (rs : List Ru) (ys : List RuV) : Prop where
  own : OwnE eR ruC 3 w B v ys
  len : ys.length = rs.length
  each : ∀ (j : Nat) (y : RuV) (r : Ru), ys[j]? = some y → rs[j]? = some r → y.b = r.br ∧ Keep (X ++ blkL v) w fun u => RdE atC 34 u y.u.v r.bf ∧ RdE atC 34 u y.t.v r.af
  below : ∀ b ∈ X, b < B
section
variable {eR : TypeId} {X : List Nat} {B : Nat} {w w' : World} {v v' : Value} {rs : List Ru} {ys : List RuV}
theorem RS.start (hX : ∀ b ∈ X, b < B) : RS eR X B w (.slice none 0 0) [] [] where
  own := OwnE.nil
  len := rfl
  each := fun _ _ _ h => by simp at h
  below := hX
theorem RS.rd (h : RS eR X B w v rs ys) : RdRu w v rs :=
  ⟨ys, h.own.rd ruC_len, h.len, fun i y r hy hr => ⟨(h.each i y r hy hr).1, (h.each i y r hy hr).2.now.1, (h.each i y r hy hr).2.now.2⟩⟩
/-- The world turns, but for the row's block and X. -/
theorem RS.keep (h : RS eR X B w v rs ys) (hs : w.heap.size ≤ w'.heap.size) (hk : ∀ b, b < w.heap.size → b ∉ X → w'.heap[b]? = w.heap[b]?) : RS eR X B w' v rs ys where
  own := own_same h.own fun k hk2 => hk k (h.own.lt k hk2).2 (fun hX => by have := h.below k hX; have := (h.own.lt k hk2).1; omega)
  len := h.len
  each := fun i y r hy hr => ⟨(h.each i y r hy hr).1, (h.each i y r hy hr).2.step hs fun b hb hX => ⟨hk b hb (fun e => hX (List.mem_append_left _ e)), hX⟩⟩
  below := h.below
/-- A rule more. -/
theorem RS.push (h : RS eR X B w v rs ys) (hB : B ≤ w.heap.size) (r : Ru) (y : RuV) (hy : y.b = r.br) (hk : Keep (X ++ blkL v) w fun u => RdE atC 34 u y.u.v r.bf ∧ RdE atC 34 u y.t.v r.af)
    (hown : OwnE eR ruC 3 w' B v' (ys ++ [y])) (hg : w.grownBy w' v.ownBlock) (hat : v'.ownBlock = v.ownBlock ∨ v'.ownBlock = some w.heap.size) : RS eR X B w' v' (rs ++ [r]) (ys ++ [y]) := by
  have hnew : ∀ b, b < w.heap.size → b ∉ X ++ blkL v → w'.heap[b]? = w.heap[b]? ∧ b ∉ X ++ blkL v' := fun b hb hX => by
    have h2 : v.ownBlock ≠ some b := fun e => hX (List.mem_append_right _ (mem_blkL.2 e))
    refine ⟨hg.block b hb (fun e => h2 e.symm), fun hm => ?_⟩
    rcases List.mem_append.1 hm with hm | hm
    · exact hX (List.mem_append_left _ hm)
    · have h3 := mem_blkL.1 hm
      rcases hat with e | e
      · exact h2 (e ▸ h3)
      · rw [e] at h3; injection h3 with h3; omega
  refine ⟨hown, by simp [h.len], fun j q p hq hp => ?_, h.below⟩
  by_cases hj : j < ys.length
  · rw [List.getElem?_append_left hj] at hq
    rw [List.getElem?_append_left (by rw [← h.len]; exact hj)] at hp
    exact ⟨(h.each j q p hq hp).1, (h.each j q p hq hp).2.step hg.size hnew⟩
  · have hj2 : j < ys.length + 1 := by have := (List.getElem?_eq_some_iff.1 hq).1; simpa using this
    obtain rfl : j = ys.length := by omega
    rw [List.getElem?_append_right (Nat.le_refl _), Nat.sub_self] at hq
    rw [List.getElem?_append_right (by rw [h.len]; exact Nat.le_refl _), h.len, Nat.sub_self] at hp
    obtain rfl : y = q := by simpa using hq
    obtain rfl : r = p := by simpa using hp
    exact ⟨hy, hk.step hg.size hnew⟩
end

end Go.Proofs.YtfkojnofbpdjdaaGreatDoor
