/-
  Contracts and plain laws that this claim leans on, part 4.
-/
import Derived.Test.YtpboaadjbkaidaaDoorPackL3
import Derived.Test.YtpboaadjbkaidaaDoorPackL2
import Derived.Deep.LoopGhost
import Derived.Shelf.Strings.Cut
import Derived.Shelf.Strings.Split
import Derived.Shelf.Vars
import Derived.Test.YtpboaadjbkaidaaDoorProg
import Derived.Test.YtpboaadjbkaidaaDoorRows
import Derived.Test.YtpboaadjbkaidaaDoorPackL1
import Derived.ProofKit
import Derived.LaidMore
import Derived.Lay
import Derived.SizedLaws
import Derived.Stop.Joined
import Derived.Deep.RegionLaw
set_option linter.unusedVariables false
set_option linter.unusedSimpArgs false
namespace Go.Proofs.YtpboaadjbkaidaaDoor
set_option maxRecDepth 100000
open Go.RowKit

theorem ruC_oneA (x : RuV) : (ruC x).toArray.all (·.oneCell') = true := by
  rw [Array.all_eq_true_iff_forall_mem]
  intro v hv
  exact ruC_one x v (List.mem_toArray.1 hv)
theorem int_info6 : (Tryd.prog.info? 3).map (fun i => (i.zero, i.size, i.bytes)) = some (some (.int .i64 0), 1, 8) := by kernel_rfl
theorem intC_oneA (x : Int) : ∀ u ∈ intC x, u.oneCell' = true := by
  intro u hu
  simp [intC] at hu
  subst hu
  rfl
theorem ld_slice {w : World} {b o : Nat} {A : Option Addr} {n c : Nat} (h : w.cell? ⟨b, o, none⟩ = some (.slice A n c)) : (Instr.loadAt 28 (.pointer (some ⟨b, o, none⟩))).run Tryd.prog w = .ok (.slice A n c) w := by
  go_simp

set_option maxRecDepth 100000 in
set_option maxHeartbeats 8000000 in
theorem breaks_any (rs : List Ru) (v : Value) (s : ByteArray) (w : World) (ht : RdRu w v rs) (hl : rs.length ≤ 1000000) (hal : ∀ r ∈ rs, r.bf.length ≤ 1000000 ∧ r.af.length ≤ 1000000) :
    Calls Tryd.prog 16 #[v, .string s] w (RetOwn 3 intC 1 w (breaksF rs s)) := by
  obtain ⟨R, HRR⟩ : ∃ R, Hid (R = RetOwn 3 intC 1 w (breaksF rs s)) := ⟨_, rfl⟩
  rw [← HRR.out]
  obtain ⟨xs, hx0, hxl, hx⟩ := ht
  have hxa : xs.length ≤ rs.length := Nat.le_of_eq hxl
  have hxb : rs.length ≤ xs.length := Nat.le_of_eq hxl.symm
  clear hxl
  obtain ⟨Av, cv, rfl, hlc, _⟩ := hx0.shape
  by_cases h24 : 1024 < s.size
  · have h24i : (1024 : Int) < (s.size : Int) := by omega
    have e0 : breaksF rs s = [] := by unfold breaksF; rw [if_pos h24]
    go_enter Tryd.func16, Tryd.ntmps16
    go_wp2_with fail
    rw [HRR.out, e0]
    exact ⟨_, rfl, OwnE.nil, Below.refl _ _⟩
  have h24i : ¬ (1024 : Int) < (s.size : Int) := by omega
  have HX := Lib.hid hx0
  have HXR := Lib.hid hx
  clear hx0 hx
  have hu := Tryd.underlying30
  have hi : (Tryd.prog.info? 30).map (·.size) = some 3 := by kernel_rfl
  have hmk := fun w => run_make_row' (P := Tryd.prog) 86 4 (.bool false) 1 Tryd.underlying86 bool_info rfl .i64 .i64 (s.size + 1) (by omega) (by omega) w
  rw [show ((s.size + 1 : Nat) : Int) = (s.size : Int) + 1 by omega] at hmk
  have HRV := Lib.hid (reversed_any s w (by omega))
  have hbks : (rvS s s.size).size = s.size := rv_size s
  have HBT : Hid (∀ j, j < s.size → bt (rvS s s.size) j = bt s (s.size - 1 - j)) := rv_bt s
  generalize rvS s s.size = bk at HRV hbks HBT
  go_enter Tryd.func16, Tryd.ntmps16
  go_upto_region 4 with (go_at_call 49; refine HRV.out.mono ?_; rintro e w1 ⟨rfl, hb1⟩)
  have HB1 := Lib.hid hb1
  have HD1 : Hid ((w1.alloc (.cells (madeCells #[.bool false] (s.size + 1)) 4)).rowIs w1.heap.size 4 (s.size + 1) (fun j => .bool (false))) := World.rowIs_made w1 (.bool false) (s.size + 1) 4
  have HB2 := Lib.hid (HB1.out.alloc HB1.out.size (.cells (madeCells #[.bool false] (s.size + 1)) 4))
  clear hb1 HRV
  go_upto_region 5 with fail
  have hz1 := HB1.out.size
  generalize w1.heap.size = D at HD1 hz1 ⊢
  generalize w1.alloc (.cells (madeCells #[.bool false] (s.size + 1)) 4) = w2 at HD1 HB2 ⊢
  have HK1 : Hid ((w2.alloc (.cells (madeCells #[.bool false] (s.size + 1)) 4)).rowIs w2.heap.size 4 (s.size + 1) (fun j => .bool (false))) := World.rowIs_made w2 (.bool false) (s.size + 1) 4
  have HB3 := Lib.hid (HB2.out.alloc HB2.out.size (.cells (madeCells #[.bool false] (s.size + 1)) 4))
  have HD2 := Lib.hid (HD1.out.of_block (w' := w2.alloc (.cells (madeCells #[.bool false] (s.size + 1)) 4)) (Below.heap_alloc w2 _ D HD1.out.lt))
  have hDK : D < w2.heap.size := HD1.out.lt
  go_upto_region 6 with fail
  clear HD1 HB2 HB1
  generalize w2.heap.size = K at HK1 hDK ⊢
  generalize w2.alloc (.cells (madeCells #[.bool false] (s.size + 1)) 4) = w3 at HK1 HD2 HB3 ⊢
  go_wp2_with fail
  obtain ⟨wo, HWO⟩ : ∃ wo, Hid (wo = w3) := ⟨w3, rfl⟩
  go_loopg [31] xs.length (fun gk kv wr => ∃ k : Nat, kv = .int .i64 k ∧ k ≤ xs.length ∧ Hid (wr.rowIs D 4 (s.size + 1) (fun j => .bool (decide (0 < j ∧ j < s.size) && foundF (rs.take k) s j))) ∧ Hid (wr.rowIs K 4 (s.size + 1) (fun j => .bool (decide (0 < j ∧ j < s.size) && decideF (rs.take k) s j))) ∧ Hid (Below w.heap.size w wr) ∧ xs.length - k ≤ gk)
  case atStart => exact ⟨0, rfl, by omega, HD2.out.congr (fun j _ => by rw [List.take_zero]; show _ = Value.bool (_ && false); rw [Bool.and_false]), HK1.out.congr (fun j _ => by rw [List.take_zero]; show _ = Value.bool (_ && false); rw [Bool.and_false]), HB3.out, by omega⟩
  case round =>
    clear HD2 HK1 HB3 HWO
    obtain ⟨k, rfl, hk, HD, HK, HB, hgk⟩ := hrel
    by_cases hkl : k < xs.length
    · have hki : (k : Int) < (xs.length : Int) := by omega
      have hk0 : (0 : Int) ≤ (k : Int) := by omega
      obtain ⟨bp, o, rfl, hbl, hcell⟩ := HX.out.cells (by omega)
      have hxk : xs[k]? = some xs[k] := List.getElem?_eq_getElem hkl
      have hrk : rs[k]? = some (rs[k]'(by omega)) := List.getElem?_eq_getElem (by omega)
      have hrg : wr.rangeAt bp (o + k * 3) (ruC xs[k]) := fun j v hj => by
        rw [Nat.add_assoc]
        exact (HB.out.cell (p := ⟨bp, o + (k * 3 + j), none⟩) hbl).trans (hcell k _ j v hxk hj)
      obtain ⟨hbr, hbf, haf⟩ := HXR.out k _ _ hxk hrk
      have HTK : Hid (rs.take (k + 1) = rs.take k ++ [rs[k]'(by omega)]) := List.take_succ_eq_append_getElem (by omega)
      have hrl : (rs[k]'(by omega)).bf.length ≤ 140737488355328 ∧ (rs[k]'(by omega)).af.length ≤ 140737488355 := by have := hal _ (List.getElem_mem (show k < rs.length by omega)); omega
      have HU1 := Lib.hid (hbf.below HB.out (Nat.le_refl _))
      have HT1 := Lib.hid (haf.below HB.out (Nat.le_refl _))
      clear hcell hxk hrk hbf haf
      generalize xs[k] = y at hrg hbr HU1 HT1
      generalize rs[k]'(by omega) = r at hbr HU1 HT1 HTK hrl
      obtain ⟨yb, ⟨uA, un, uc⟩, ⟨tA, tn, tc⟩⟩ := y
      obtain rfl : yb = r.br := hbr
      have hz := HB.out.size
      have hz2 := HB.out.size
      have hq1 : bp < wr.heap.size := Nat.lt_of_lt_of_le hbl hz2
      have HQ : Hid (((wr.alloc (.cells #[.bool false, .slice none 0 0, .slice none 0 0] 30)).setRow wr.heap.size (ruC ⟨r.br, ⟨uA, un, uc⟩, ⟨tA, tn, tc⟩⟩).toArray).heap[wr.heap.size]? = some (.cells (ruC ⟨r.br, ⟨uA, un, uc⟩, ⟨tA, tn, tc⟩⟩).toArray 30)) := setRow_heap _ _ _ _ _ _ (heap_alloc_new wr _)
      have HB4 : Hid (Below w.heap.size w ((wr.alloc (.cells #[.bool false, .slice none 0 0, .slice none 0 0] 30)).setRow wr.heap.size (ruC ⟨r.br, ⟨uA, un, uc⟩, ⟨tA, tn, tc⟩⟩).toArray)) := below_setRow (HB.out.alloc hz _) hz _
      have HN4 : Hid (Below wr.heap.size wr ((wr.alloc (.cells #[.bool false, .slice none 0 0, .slice none 0 0] 30)).setRow wr.heap.size (ruC ⟨r.br, ⟨uA, un, uc⟩, ⟨tA, tn, tc⟩⟩).toArray)) := below_setRow ((Below.refl _ wr).alloc (Nat.le_refl _) _) (Nat.le_refl _) _
      go_upto_region 9 with (first
        | (refine wpList_load_mid rfl 30 (.tmp 33) rfl bp (o + k * 3) rfl (ruC ⟨r.br, ⟨uA, un, uc⟩, ⟨tA, tn, tc⟩⟩) _ hrg hu rfl (by rw [hi]; rfl) ?_)
        | (refine wpList_store_row rfl 30 (.tmp 9) (.tmp 34) rfl (wr.heap.size) (ruC ⟨r.br, ⟨uA, un, uc⟩, ⟨tA, tn, tc⟩⟩).toArray rfl rfl 30 _ (heap_alloc_new wr _) (by rw [hi]; rfl) rfl (ruC_oneA _) ?_))
      have HD4 := Lib.hid (HD.out.of_block (w' := (wr.alloc (.cells #[.bool false, .slice none 0 0, .slice none 0 0] 30)).setRow wr.heap.size (ruC ⟨r.br, ⟨uA, un, uc⟩, ⟨tA, tn, tc⟩⟩).toArray) (HN4.out.block _ HD.out.lt))
      have HK4 := Lib.hid (HK.out.of_block (w' := (wr.alloc (.cells #[.bool false, .slice none 0 0, .slice none 0 0] 30)).setRow wr.heap.size (ruC ⟨r.br, ⟨uA, un, uc⟩, ⟨tA, tn, tc⟩⟩).toArray) (HN4.out.block _ HK.out.lt))
      have HU4 := Lib.hid (HU1.out.below HN4.out (Nat.le_refl _))
      have HT4 := Lib.hid (HT1.out.below HN4.out (Nat.le_refl _))
      have hDq : D < wr.heap.size := HD.out.lt
      have hKq : K < wr.heap.size := HK.out.lt
      have hq4 : wr.heap.size < ((wr.alloc (.cells #[.bool false, .slice none 0 0, .slice none 0 0] 30)).setRow wr.heap.size (ruC ⟨r.br, ⟨uA, un, uc⟩, ⟨tA, tn, tc⟩⟩).toArray).heap.size := (Array.getElem?_eq_some_iff.1 HQ.out).1
      clear HD HK HB HN4 HU1 HT1 hrg hz hz2 hq1
      generalize wr.heap.size = q at HQ HB4 HD4 HK4 HU4 HT4 hDq hKq hq4 ⊢
      generalize (wr.alloc (.cells #[.bool false, .slice none 0 0, .slice none 0 0] 30)).setRow q (ruC ⟨r.br, ⟨uA, un, uc⟩, ⟨tA, tn, tc⟩⟩).toArray = wr4 at HQ HB4 HD4 HK4 HU4 HT4 hq4 ⊢
      change Hid (RdE atC 34 wr4 (.slice uA un uc) r.bf) at HU4
      change Hid (RdE atC 34 wr4 (.slice tA tn tc) r.af) at HT4
      have z0 : wr4.cell? ⟨q, 0, none⟩ = some (.bool r.br) := by rw [cell_of_row _ _ _ _ _ _ HQ.out]; rfl
      have z1 : wr4.cell? ⟨q, 1, none⟩ = some (.slice uA un uc) := by rw [cell_of_row _ _ _ _ _ _ HQ.out]; rfl
      have z2 : wr4.cell? ⟨q, 2, none⟩ = some (.slice tA tn tc) := by rw [cell_of_row _ _ _ _ _ _ HQ.out]; rfl
      have HL1 : Hid ((Instr.loadAt 28 (.pointer (some ⟨q, 1, none⟩))).run Tryd.prog wr4.drew = .ok (.slice uA un uc) wr4.drew) := ld_slice z1
      have HL2 : Hid ((Instr.loadAt 28 (.pointer (some ⟨q, 2, none⟩))).run Tryd.prog wr4.drew = .ok (.slice tA tn tc) wr4.drew) := ld_slice z2
      obtain ⟨hbl0, hal0⟩ := hrl
      refine wp_region_at 11 #[false, false, false, false, false, false, false, false, false, false, false] rfl rfl (by kernel_rfl) ?_
      refine wpAny_at (i := 0) (v := .pointer (some ⟨q, 1, none⟩)) (some 35) rfl rfl (by kernel_rfl) (by kernel_rfl) (by kernel_rfl) (fun _ _ _ h => h) (by kernel_rfl) (fun _ => ex_fieldAddr 30 _ 1 (.pointer (some ⟨q, 0, none⟩)) _ rfl (by kernel_rfl) (by go_simp)) ?_
      simp only [Act.put, List.setIfInBounds_toArray, List.set_cons_zero, List.set_cons_succ]
      refine wpAny_at (i := 2) (v := .string s) (some 37) rfl rfl (by kernel_rfl) (by kernel_rfl) (by kernel_rfl) (fun _ _ _ h => h) (by kernel_rfl) (fun _ => ex_move _ _ rfl (by kernel_rfl)) ?_
      simp only [Act.put, List.setIfInBounds_toArray, List.set_cons_zero, List.set_cons_succ]
      refine wpAny_at (i := 4) (v := .pointer (some ⟨q, 2, none⟩)) (some 39) rfl rfl (by kernel_rfl) (by kernel_rfl) (by kernel_rfl) (fun _ _ _ h => h) (by kernel_rfl) (fun _ => ex_fieldAddr 30 _ 2 (.pointer (some ⟨q, 0, none⟩)) _ rfl (by kernel_rfl) (by go_simp)) ?_
      simp only [Act.put, List.setIfInBounds_toArray, List.set_cons_zero, List.set_cons_succ]
      refine wpAny_at (i := 7) (v := .string bk) (some 42) rfl rfl (by kernel_rfl) (by kernel_rfl) (by kernel_rfl) (fun _ _ _ h => h) (by kernel_rfl) (fun _ => ex_move _ _ rfl (by kernel_rfl)) ?_
      simp only [Act.put, List.setIfInBounds_toArray, List.set_cons_zero, List.set_cons_succ]
      refine wpAny_vals 1 5 (some 36) (some 40) (.slice uA un uc) (.slice tA tn tc) (by kernel_rfl) rfl rfl rfl rfl (by kernel_rfl) (by kernel_rfl) (ex_load 28 _ (.pointer (some ⟨q, 1, none⟩)) _ rfl (by kernel_rfl) (HL1.out)) (ex_load 28 _ (.pointer (some ⟨q, 2, none⟩)) _ rfl (by kernel_rfl) (HL2.out)) ?_ ?_
      · simp only [Act.put, List.setIfInBounds_toArray, List.set_cons_zero, List.set_cons_succ]
        refine wpAny_callval 3 5 (some 38) (some 40) (.slice tA tn tc) (by kernel_rfl) rfl rfl rfl rfl (by kernel_rfl) (by kernel_rfl) 50 (#[.slice uA un uc, .string s]) (by go_simp) (ends_any r.bf s _ wr4.drew HU4.out (by omega) hbl0) (ex_load 28 _ (.pointer (some ⟨q, 2, none⟩)) _ rfl (by kernel_rfl) (HL2.out)) ?_ ?_
        · rintro e w5 ⟨g1, rfl, hg1, hr1, hb5⟩
          refine ⟨_, rfl, ?_⟩
          have HL3 : Hid (∀ w', w'.heap = w5.heap → (Instr.loadAt 28 (.pointer (some ⟨q, 2, none⟩))).run Tryd.prog w' = .ok (.slice tA tn tc) w') := fun w' hw' => ld_slice (by rw [World.cell?_of_block (w := w5) (by rw [hw'])]; exact (hb5.cell (p := ⟨q, 2, none⟩) hq4).trans z2)
          change wpAny _ _ _ _ _ _ (Act.put _ (some 38) _) _
          simp only [Act.put, List.setIfInBounds_toArray, List.set_cons_zero, List.set_cons_succ]
          refine wpAny_val 5 (some 40) (.slice tA tn tc) (by kernel_rfl) rfl rfl (by kernel_rfl) (ex_load 28 _ (.pointer (some ⟨q, 2, none⟩)) _ rfl (by kernel_rfl) (HL3.out _ rfl)) ?_
          simp only [Act.put, List.setIfInBounds_toArray, List.set_cons_zero, List.set_cons_succ]
          refine wpAny_call 6 (some 41) (by kernel_rfl) rfl rfl (by kernel_rfl) 51 (#[.slice tA tn tc]) (by go_simp) (revp_any r.af _ w5 ((show RdE atC 34 wr4.drew _ _ from HT4.out).below hb5 (Nat.le_refl _)) hal0) ?_
          rintro e w6 ⟨v6, rfl, hr6, hb6⟩
          refine ⟨_, rfl, ?_⟩
          change wpAny _ _ _ _ _ _ (Act.put _ (some 41) _) _
          simp only [Act.put, List.setIfInBounds_toArray, List.set_cons_zero, List.set_cons_succ]
          refine wpAny_call 8 (some 43) (by kernel_rfl) rfl rfl (by kernel_rfl) 50 (#[v6, .string bk]) (by go_simp) (ends_any r.af.reverse bk v6 w6 hr6 (by omega) (by simp; omega)) ?_
          rintro e w7 ⟨g2, rfl, hg2, hr2, hb7⟩
          refine ⟨_, rfl, ?_⟩
          rw [hbks]
          change wpAny _ _ _ _ _ _ (Act.put _ (some 43) _) _
          simp only [Act.put, List.setIfInBounds_toArray, List.set_cons_zero, List.set_cons_succ]
          refine wpAny_at (i := 9) (v := .slice (some ⟨g1, 0, none⟩) (s.size + 1) (s.size + 1)) (some 10) rfl rfl (by kernel_rfl) (by kernel_rfl) (by kernel_rfl) (fun _ _ _ h => h) (by kernel_rfl) (fun _ => ex_assign _ _ rfl (by kernel_rfl)) ?_
          simp only [Act.put, List.setIfInBounds_toArray, List.set_cons_zero, List.set_cons_succ]
          refine wpAny_at (i := 10) (v := .slice (some ⟨g2, 0, none⟩) (s.size + 1) (s.size + 1)) (some 11) rfl rfl (by kernel_rfl) (by kernel_rfl) (by kernel_rfl) (fun _ _ _ h => h) (by kernel_rfl) (fun _ => ex_assign _ _ rfl (by kernel_rfl)) ?_
          simp only [Act.put, List.setIfInBounds_toArray, List.set_cons_zero, List.set_cons_succ]
          refine wpAny_done (by kernel_rfl) ?_ _
          rw [hbks] at hr2
          have HG1 : Hid (w7.rowIs g1 4 (s.size + 1) (fun j => .bool (reachF s r.bf allF j))) := (hr1.of_block (hb6.block _ hr1.lt)).of_block (hb7.block _ (hr1.of_block (hb6.block _ hr1.lt)).lt)
          have HG2 : Hid (w7.rowIs g2 4 (s.size + 1) (fun j => .bool (reachF bk r.af.reverse allF j))) := hr2
          have HBq : Hid (Below wr4.heap.size wr4 w7) := ((below_drewN (Below.refl _ wr4) 1).trans hb5).trans ((hb6.trans (hb7.mono hb6.size)).mono hb5.size)
          have HD7 := Lib.hid (HD4.out.of_block (HBq.out.block _ HD4.out.lt))
          have HK7 := Lib.hid (HK4.out.of_block (HBq.out.block _ HK4.out.lt))
          have HB7 := Lib.hid (HB4.out.trans (HBq.out.mono HB4.out.size))
          have z0w := (HBq.out.cell (p := ⟨q, 0, none⟩) hq4).trans z0
          have hg1q : q < g1 := Nat.lt_of_lt_of_le hq4 hg1
          have hg2q : q < g2 := Nat.lt_of_lt_of_le hq4 (Nat.le_trans (Nat.le_trans hb5.size hb6.size) hg2)
          clear hr1 hr2 hb5 hb6 hb7 HL3 hr6 HBq z0 z1 z2 HL1 HL2 HD4 HK4 HB4 HU4 HT4 HQ hq4
          go_wp2_with fail
          obtain ⟨wo2, HWO2⟩ : ∃ wo, Hid (wo = w7) := ⟨w7, rfl⟩
          go_loopg [12] (s.size + 1) (fun gk iv wr => ∃ i : Nat, iv = .int .i64 i ∧ 1 ≤ i ∧ i ≤ s.size + 1 ∧ Hid (wr.rowIs D 4 (s.size + 1) (fun j => .bool (if j < i then decide (0 < j ∧ j < s.size) && foundF (rs.take (k + 1)) s j else decide (0 < j ∧ j < s.size) && foundF (rs.take k) s j))) ∧ Hid (wr.rowIs K 4 (s.size + 1) (fun j => .bool (if j < i then decide (0 < j ∧ j < s.size) && decideF (rs.take (k + 1)) s j else decide (0 < j ∧ j < s.size) && decideF (rs.take k) s j))) ∧ Hid (wr.rowIs g1 4 (s.size + 1) (fun j => .bool (reachF s r.bf allF j))) ∧ Hid (wr.rowIs g2 4 (s.size + 1) (fun j => .bool (reachF bk r.af.reverse allF j))) ∧ wr.cell? ⟨q, 0, none⟩ = some (.bool r.br) ∧ Hid (Below w.heap.size w wr) ∧ s.size + 1 - i ≤ gk)
          case atStart => exact ⟨1, rfl, Nat.le_refl _, by omega, HD7.out.congr (fun j _ => by
              by_cases h : j < 1
              · rw [if_pos h, show j = 0 by omega]; rfl
              · rw [if_neg h]), HK7.out.congr (fun j _ => by
              by_cases h : j < 1
              · rw [if_pos h, show j = 0 by omega]; rfl
              · rw [if_neg h]), HG1.out, HG2.out, z0w, HB7.out, by omega⟩
          case round =>
            clear HD7 HK7 HG1 HG2 z0w HB7 HWO2
            obtain ⟨i, rfl, hi1, hi2, HDi, HKi, HG1i, HG2i, z0i, HBi, hgki⟩ := hrel
            by_cases hil : i < s.size
            · have hii : (i : Int) < (s.size : Int) := by omega
              have hi0 : (0 : Int) ≤ (i : Int) := by omega
              have hi3 : (i : Int) < (s.size : Int) + 1 := by omega
              obtain ⟨t, ht⟩ : ∃ t, t + i = s.size := ⟨s.size - i, by omega⟩
              have hsub : (s.size : Int) - (i : Int) = (t : Int) := by omega
              have ht0 : (0 : Int) ≤ (t : Int) := by omega
              have ht1 : (t : Int) < (s.size : Int) + 1 := by omega
              have qd := HDi.out.cell (i := i) (by omega)
              rw [if_neg (Nat.lt_irrefl i), decide_eq_true ⟨hi1, hil⟩, Bool.true_and] at qd
              have qk := HKi.out.cell (i := i) (by omega)
              have qb := HG1i.out.cell (i := i) (by omega)
              rw [ends_suf r.bf s i (by omega)] at qb
              have qa := HG2i.out.cell (i := t) (by omega)
              rw [show t = s.size - i by omega, ends_pre r.af hbks HBT.out i (by omega), show s.size - i = t by omega] at qa
              have hnd : foundF (rs.take (k + 1)) s i = (foundF (rs.take k) s i || (suffixF r.bf (s.extract 0 i) && prefixF r.af (s.extract i s.size))) := by rw [HTK.out, found_snoc]; rfl
              have hnk : decideF (rs.take (k + 1)) s i = if foundF (rs.take k) s i = true then decideF (rs.take k) s i else ((suffixF r.bf (s.extract 0 i) && prefixF r.af (s.extract i s.size)) && r.br) := by rw [HTK.out, decide_snoc]; rfl
              have hno := decide_none (rs.take k) s i
              cases hfd : foundF (rs.take k) s i with
              | true =>
                rw [hfd] at qd
                have hnew1 : (decide (0 < i ∧ i < s.size) && foundF (rs.take (k + 1)) s i) = (decide (0 < i ∧ i < s.size) && foundF (rs.take k) s i) := by rw [hnd, hfd]; rfl
                have hnew2 : (decide (0 < i ∧ i < s.size) && decideF (rs.take (k + 1)) s i) = (decide (0 < i ∧ i < s.size) && decideF (rs.take k) s i) := by rw [hnk, if_pos hfd]
                clear hnd hnk hno
                have HDN : Hid (wr.rowIs D 4 (s.size + 1) (fun j => .bool (if j < i + 1 then decide (0 < j ∧ j < s.size) && foundF (rs.take (k + 1)) s j else decide (0 < j ∧ j < s.size) && foundF (rs.take k) s j))) := HDi.out.congr fun j hj => by
                  by_cases h : j = i
                  · rw [if_neg (by omega), if_pos (by omega), h, hnew1]
                  · by_cases h2 : j < i
                    · rw [if_pos h2, if_pos (by omega)]
                    · rw [if_neg h2, if_neg (by omega)]
                have HKN : Hid (wr.rowIs K 4 (s.size + 1) (fun j => .bool (if j < i + 1 then decide (0 < j ∧ j < s.size) && decideF (rs.take (k + 1)) s j else decide (0 < j ∧ j < s.size) && decideF (rs.take k) s j))) := HKi.out.congr fun j hj => by
                  by_cases h : j = i
                  · rw [if_neg (by omega), if_pos (by omega), h, hnew2]
                  · by_cases h2 : j < i
                    · rw [if_pos h2, if_pos (by omega)]
                    · rw [if_neg h2, if_neg (by omega)]
                clear hnew1 hnew2
                go_wp2_with fail
                go_roundg (s.size + 1 - (i + 1))
                case measure => omega
                case rel => exact ⟨i + 1, by go_num, by omega, by omega, HDN.out, HKN.out, HG1i.out, HG2i.out, z0i, HBi.out, Nat.le_refl _⟩
              | false =>
                rw [hfd] at qd
                cases hsb : suffixF r.bf (s.extract 0 i) with
                | false =>
                  rw [hsb] at qb
                  have hnew1 : (decide (0 < i ∧ i < s.size) && foundF (rs.take (k + 1)) s i) = (decide (0 < i ∧ i < s.size) && foundF (rs.take k) s i) := by rw [hnd, hfd, hsb]; rfl
                  have hnew2 : (decide (0 < i ∧ i < s.size) && decideF (rs.take (k + 1)) s i) = (decide (0 < i ∧ i < s.size) && decideF (rs.take k) s i) := by rw [hnk, if_neg (by rw [hfd]; exact Bool.false_ne_true), hsb, hno hfd]; rfl
                  clear hnd hnk hno
                  have HDN : Hid (wr.rowIs D 4 (s.size + 1) (fun j => .bool (if j < i + 1 then decide (0 < j ∧ j < s.size) && foundF (rs.take (k + 1)) s j else decide (0 < j ∧ j < s.size) && foundF (rs.take k) s j))) := HDi.out.congr fun j hj => by
                    by_cases h : j = i
                    · rw [if_neg (by omega), if_pos (by omega), h, hnew1]
                    · by_cases h2 : j < i
                      · rw [if_pos h2, if_pos (by omega)]
                      · rw [if_neg h2, if_neg (by omega)]
                  have HKN : Hid (wr.rowIs K 4 (s.size + 1) (fun j => .bool (if j < i + 1 then decide (0 < j ∧ j < s.size) && decideF (rs.take (k + 1)) s j else decide (0 < j ∧ j < s.size) && decideF (rs.take k) s j))) := HKi.out.congr fun j hj => by
                    by_cases h : j = i
                    · rw [if_neg (by omega), if_pos (by omega), h, hnew2]
                    · by_cases h2 : j < i
                      · rw [if_pos h2, if_pos (by omega)]
                      · rw [if_neg h2, if_neg (by omega)]
                  clear hnew1 hnew2
                  go_wp2_with fail
                  go_roundg (s.size + 1 - (i + 1))
                  case measure => omega
                  case rel => exact ⟨i + 1, by go_num, by omega, by omega, HDN.out, HKN.out, HG1i.out, HG2i.out, z0i, HBi.out, Nat.le_refl _⟩
                | true =>
                  rw [hsb] at qb
                  cases hpa : prefixF r.af (s.extract i s.size) with
                  | false =>
                    rw [hpa] at qa
                    have hnew1 : (decide (0 < i ∧ i < s.size) && foundF (rs.take (k + 1)) s i) = (decide (0 < i ∧ i < s.size) && foundF (rs.take k) s i) := by rw [hnd, hfd, hsb, hpa]; rfl
                    have hnew2 : (decide (0 < i ∧ i < s.size) && decideF (rs.take (k + 1)) s i) = (decide (0 < i ∧ i < s.size) && decideF (rs.take k) s i) := by rw [hnk, if_neg (by rw [hfd]; exact Bool.false_ne_true), hsb, hpa, hno hfd]; rfl
                    clear hnd hnk hno
                    have HDN : Hid (wr.rowIs D 4 (s.size + 1) (fun j => .bool (if j < i + 1 then decide (0 < j ∧ j < s.size) && foundF (rs.take (k + 1)) s j else decide (0 < j ∧ j < s.size) && foundF (rs.take k) s j))) := HDi.out.congr fun j hj => by
                      by_cases h : j = i
                      · rw [if_neg (by omega), if_pos (by omega), h, hnew1]
                      · by_cases h2 : j < i
                        · rw [if_pos h2, if_pos (by omega)]
                        · rw [if_neg h2, if_neg (by omega)]
                    have HKN : Hid (wr.rowIs K 4 (s.size + 1) (fun j => .bool (if j < i + 1 then decide (0 < j ∧ j < s.size) && decideF (rs.take (k + 1)) s j else decide (0 < j ∧ j < s.size) && decideF (rs.take k) s j))) := HKi.out.congr fun j hj => by
                      by_cases h : j = i
                      · rw [if_neg (by omega), if_pos (by omega), h, hnew2]
                      · by_cases h2 : j < i
                        · rw [if_pos h2, if_pos (by omega)]
                        · rw [if_neg h2, if_neg (by omega)]
                    clear hnew1 hnew2
                    go_wp2_with fail
                    go_roundg (s.size + 1 - (i + 1))
                    case measure => omega
                    case rel => exact ⟨i + 1, by go_num, by omega, by omega, HDN.out, HKN.out, HG1i.out, HG2i.out, z0i, HBi.out, Nat.le_refl _⟩
                  | true =>
                    rw [hpa] at qa
                    have hnew1 : foundF (rs.take (k + 1)) s i = true := by rw [hnd, hfd, hsb, hpa]; rfl
                    have hnew2 : decideF (rs.take (k + 1)) s i = r.br := by rw [hnk, if_neg (by rw [hfd]; exact Bool.false_ne_true), hsb, hpa]; rfl
                    clear hnd hnk hno
                    have fd := HDi.out.frozen i
                    have fk := HKi.out.frozen i
                    have hne : ¬ D = K := by omega
                    have hne2 : ¬ K = D := by omega
                    have HD8 : Hid (((wr.drew.setCell ⟨D, i, none⟩ (.bool true)).setCell ⟨K, i, none⟩ (.bool r.br)).rowIs D 4 (s.size + 1) (fun j => .bool (if j < i + 1 then decide (0 < j ∧ j < s.size) && foundF (rs.take (k + 1)) s j else decide (0 < j ∧ j < s.size) && foundF (rs.take k) s j))) := ((HDi.out.drew.set i (.bool true)).of_block (Below.heap_setCell _ _ _ _ (show D ≠ K by omega))).congr fun j hj => by
                      by_cases h : j = i
                      · rw [if_pos h, if_pos (by omega), h, hnew1, decide_eq_true ⟨hi1, hil⟩]; rfl
                      · rw [if_neg h]
                        by_cases h2 : j < i
                        · rw [if_pos h2, if_pos (by omega)]
                        · rw [if_neg h2, if_neg (by omega)]
                    have HK8 : Hid (((wr.drew.setCell ⟨D, i, none⟩ (.bool true)).setCell ⟨K, i, none⟩ (.bool r.br)).rowIs K 4 (s.size + 1) (fun j => .bool (if j < i + 1 then decide (0 < j ∧ j < s.size) && decideF (rs.take (k + 1)) s j else decide (0 < j ∧ j < s.size) && decideF (rs.take k) s j))) := ((HKi.out.drew.of_block (Below.heap_setCell _ _ _ _ (show K ≠ D by omega))).set i (.bool r.br)).congr fun j hj => by
                      by_cases h : j = i
                      · rw [if_pos h, if_pos (by omega), h, hnew2, decide_eq_true ⟨hi1, hil⟩]; rfl
                      · rw [if_neg h]
                        by_cases h2 : j < i
                        · rw [if_pos h2, if_pos (by omega)]
                        · rw [if_neg h2, if_neg (by omega)]
                    have HG18 : Hid (((wr.drew.setCell ⟨D, i, none⟩ (.bool true)).setCell ⟨K, i, none⟩ (.bool r.br)).rowIs g1 4 (s.size + 1) (fun j => .bool (reachF s r.bf allF j))) := (HG1i.out.drew.of_block (Below.heap_setCell _ _ _ _ (show g1 ≠ D by omega))).of_block (Below.heap_setCell _ _ _ _ (show g1 ≠ K by omega))
                    have HG28 : Hid (((wr.drew.setCell ⟨D, i, none⟩ (.bool true)).setCell ⟨K, i, none⟩ (.bool r.br)).rowIs g2 4 (s.size + 1) (fun j => .bool (reachF bk r.af.reverse allF j))) := (HG2i.out.drew.of_block (Below.heap_setCell _ _ _ _ (show g2 ≠ D by omega))).of_block (Below.heap_setCell _ _ _ _ (show g2 ≠ K by omega))
                    have HZ8 : Hid (((wr.drew.setCell ⟨D, i, none⟩ (.bool true)).setCell ⟨K, i, none⟩ (.bool r.br)).cell? ⟨q, 0, none⟩ = some (.bool r.br)) := by
                      show _ = _
                      rw [World.cell?_of_block (w := wr.drew.setCell ⟨D, i, none⟩ (.bool true)) (Below.heap_setCell _ _ _ _ (show q ≠ K by omega)), World.cell?_of_block (w := wr.drew) (Below.heap_setCell _ _ _ _ (show q ≠ D by omega))]
                      exact z0i
                    have HB8 : Hid (Below w.heap.size w ((wr.drew.setCell ⟨D, i, none⟩ (.bool true)).setCell ⟨K, i, none⟩ (.bool r.br))) := (HBi.out.drew.setCell (p := ⟨D, i, none⟩) (show w.heap.size ≤ D by omega) _).setCell (p := ⟨K, i, none⟩) (show w.heap.size ≤ K by omega) _
                    go_upto_region 14 with fail
                    go_region
                    go_wp2_with fail
                    go_roundg (s.size + 1 - (i + 1))
                    case measure => omega
                    case rel => exact ⟨i + 1, by go_num, by omega, by omega, HD8.out, HK8.out, HG18.out, HG28.out, HZ8.out, HB8.out, Nat.le_refl _⟩
            · have hge : s.size ≤ i := by omega
              have hii : ¬ (i : Int) < (s.size : Int) := by omega
              have HDE : Hid (wr.rowIs D 4 (s.size + 1) (fun j => .bool (decide (0 < j ∧ j < s.size) && foundF (rs.take (k + 1)) s j))) := HDi.out.congr fun j hj => by
                by_cases h : j < i
                · rw [if_pos h]
                · rw [if_neg h, decide_eq_false (by omega)]; rfl
              have HKE : Hid (wr.rowIs K 4 (s.size + 1) (fun j => .bool (decide (0 < j ∧ j < s.size) && decideF (rs.take (k + 1)) s j))) := HKi.out.congr fun j hj => by
                by_cases h : j < i
                · rw [if_pos h]
                · rw [if_neg h, decide_eq_false (by omega)]; rfl
              go_wp2_with fail
              go_roundg (xs.length - (k + 1))
              case measure => omega
              case rel => exact ⟨k + 1, by go_num, by omega, HDE.out, HKE.out, HBi.out, Nat.le_refl _⟩
        · simp only [Act.put, List.setIfInBounds_toArray, List.set_cons_zero, List.set_cons_succ]
          refine wpAny_call 3 (some 38) (by kernel_rfl) rfl rfl (by kernel_rfl) 50 (#[.slice uA un uc, .string s]) (by go_simp) (ends_any r.bf s _ wr4.drew HU4.out (by omega) hbl0) ?_
          rintro e w5 ⟨g1, rfl, hg1, hr1, hb5⟩
          refine ⟨_, rfl, ?_⟩
          have HL3 : Hid (∀ w', w'.heap = w5.heap → (Instr.loadAt 28 (.pointer (some ⟨q, 2, none⟩))).run Tryd.prog w' = .ok (.slice tA tn tc) w') := fun w' hw' => ld_slice (by rw [World.cell?_of_block (w := w5) (by rw [hw'])]; exact (hb5.cell (p := ⟨q, 2, none⟩) hq4).trans z2)
          change wpAny _ _ _ _ _ _ (Act.put _ (some 38) _) _
          simp only [Act.put, List.setIfInBounds_toArray, List.set_cons_zero, List.set_cons_succ]
          refine wpAny_call 6 (some 41) (by kernel_rfl) rfl rfl (by kernel_rfl) 51 (#[.slice tA tn tc]) (by go_simp) (revp_any r.af _ w5 ((show RdE atC 34 wr4.drew _ _ from HT4.out).below hb5 (Nat.le_refl _)) hal0) ?_
          rintro e w6 ⟨v6, rfl, hr6, hb6⟩
          refine ⟨_, rfl, ?_⟩
          change wpAny _ _ _ _ _ _ (Act.put _ (some 41) _) _
          simp only [Act.put, List.setIfInBounds_toArray, List.set_cons_zero, List.set_cons_succ]
          refine wpAny_call 8 (some 43) (by kernel_rfl) rfl rfl (by kernel_rfl) 50 (#[v6, .string bk]) (by go_simp) (ends_any r.af.reverse bk v6 w6 hr6 (by omega) (by simp; omega)) ?_
          rintro e w7 ⟨g2, rfl, hg2, hr2, hb7⟩
          refine ⟨_, rfl, ?_⟩
          rw [hbks]
          change wpAny _ _ _ _ _ _ (Act.put _ (some 43) _) _
          simp only [Act.put, List.setIfInBounds_toArray, List.set_cons_zero, List.set_cons_succ]
          refine wpAny_at (i := 9) (v := .slice (some ⟨g1, 0, none⟩) (s.size + 1) (s.size + 1)) (some 10) rfl rfl (by kernel_rfl) (by kernel_rfl) (by kernel_rfl) (fun _ _ _ h => h) (by kernel_rfl) (fun _ => ex_assign _ _ rfl (by kernel_rfl)) ?_
          simp only [Act.put, List.setIfInBounds_toArray, List.set_cons_zero, List.set_cons_succ]
          refine wpAny_at (i := 10) (v := .slice (some ⟨g2, 0, none⟩) (s.size + 1) (s.size + 1)) (some 11) rfl rfl (by kernel_rfl) (by kernel_rfl) (by kernel_rfl) (fun _ _ _ h => h) (by kernel_rfl) (fun _ => ex_assign _ _ rfl (by kernel_rfl)) ?_
          simp only [Act.put, List.setIfInBounds_toArray, List.set_cons_zero, List.set_cons_succ]
          refine wpAny_done (by kernel_rfl) ?_ _
          rw [hbks] at hr2
          have HG1 : Hid (w7.rowIs g1 4 (s.size + 1) (fun j => .bool (reachF s r.bf allF j))) := (hr1.of_block (hb6.block _ hr1.lt)).of_block (hb7.block _ (hr1.of_block (hb6.block _ hr1.lt)).lt)
          have HG2 : Hid (w7.rowIs g2 4 (s.size + 1) (fun j => .bool (reachF bk r.af.reverse allF j))) := hr2
          have HBq : Hid (Below wr4.heap.size wr4 w7) := ((below_drewN (Below.refl _ wr4) 1).trans hb5).trans ((hb6.trans (hb7.mono hb6.size)).mono hb5.size)
          have HD7 := Lib.hid (HD4.out.of_block (HBq.out.block _ HD4.out.lt))
          have HK7 := Lib.hid (HK4.out.of_block (HBq.out.block _ HK4.out.lt))
          have HB7 := Lib.hid (HB4.out.trans (HBq.out.mono HB4.out.size))
          have z0w := (HBq.out.cell (p := ⟨q, 0, none⟩) hq4).trans z0
          have hg1q : q < g1 := Nat.lt_of_lt_of_le hq4 hg1
          have hg2q : q < g2 := Nat.lt_of_lt_of_le hq4 (Nat.le_trans (Nat.le_trans hb5.size hb6.size) hg2)
          clear hr1 hr2 hb5 hb6 hb7 HL3 hr6 HBq z0 z1 z2 HL1 HL2 HD4 HK4 HB4 HU4 HT4 HQ hq4
          go_wp2_with fail
          obtain ⟨wo2, HWO2⟩ : ∃ wo, Hid (wo = w7) := ⟨w7, rfl⟩
          go_loopg [12] (s.size + 1) (fun gk iv wr => ∃ i : Nat, iv = .int .i64 i ∧ 1 ≤ i ∧ i ≤ s.size + 1 ∧ Hid (wr.rowIs D 4 (s.size + 1) (fun j => .bool (if j < i then decide (0 < j ∧ j < s.size) && foundF (rs.take (k + 1)) s j else decide (0 < j ∧ j < s.size) && foundF (rs.take k) s j))) ∧ Hid (wr.rowIs K 4 (s.size + 1) (fun j => .bool (if j < i then decide (0 < j ∧ j < s.size) && decideF (rs.take (k + 1)) s j else decide (0 < j ∧ j < s.size) && decideF (rs.take k) s j))) ∧ Hid (wr.rowIs g1 4 (s.size + 1) (fun j => .bool (reachF s r.bf allF j))) ∧ Hid (wr.rowIs g2 4 (s.size + 1) (fun j => .bool (reachF bk r.af.reverse allF j))) ∧ wr.cell? ⟨q, 0, none⟩ = some (.bool r.br) ∧ Hid (Below w.heap.size w wr) ∧ s.size + 1 - i ≤ gk)
          case atStart => exact ⟨1, rfl, Nat.le_refl _, by omega, HD7.out.congr (fun j _ => by
              by_cases h : j < 1
              · rw [if_pos h, show j = 0 by omega]; rfl
              · rw [if_neg h]), HK7.out.congr (fun j _ => by
              by_cases h : j < 1
              · rw [if_pos h, show j = 0 by omega]; rfl
              · rw [if_neg h]), HG1.out, HG2.out, z0w, HB7.out, by omega⟩
          case round =>
            clear HD7 HK7 HG1 HG2 z0w HB7 HWO2
            obtain ⟨i, rfl, hi1, hi2, HDi, HKi, HG1i, HG2i, z0i, HBi, hgki⟩ := hrel
            by_cases hil : i < s.size
            · have hii : (i : Int) < (s.size : Int) := by omega
              have hi0 : (0 : Int) ≤ (i : Int) := by omega
              have hi3 : (i : Int) < (s.size : Int) + 1 := by omega
              obtain ⟨t, ht⟩ : ∃ t, t + i = s.size := ⟨s.size - i, by omega⟩
              have hsub : (s.size : Int) - (i : Int) = (t : Int) := by omega
              have ht0 : (0 : Int) ≤ (t : Int) := by omega
              have ht1 : (t : Int) < (s.size : Int) + 1 := by omega
              have qd := HDi.out.cell (i := i) (by omega)
              rw [if_neg (Nat.lt_irrefl i), decide_eq_true ⟨hi1, hil⟩, Bool.true_and] at qd
              have qk := HKi.out.cell (i := i) (by omega)
              have qb := HG1i.out.cell (i := i) (by omega)
              rw [ends_suf r.bf s i (by omega)] at qb
              have qa := HG2i.out.cell (i := t) (by omega)
              rw [show t = s.size - i by omega, ends_pre r.af hbks HBT.out i (by omega), show s.size - i = t by omega] at qa
              have hnd : foundF (rs.take (k + 1)) s i = (foundF (rs.take k) s i || (suffixF r.bf (s.extract 0 i) && prefixF r.af (s.extract i s.size))) := by rw [HTK.out, found_snoc]; rfl
              have hnk : decideF (rs.take (k + 1)) s i = if foundF (rs.take k) s i = true then decideF (rs.take k) s i else ((suffixF r.bf (s.extract 0 i) && prefixF r.af (s.extract i s.size)) && r.br) := by rw [HTK.out, decide_snoc]; rfl
              have hno := decide_none (rs.take k) s i
              cases hfd : foundF (rs.take k) s i with
              | true =>
                rw [hfd] at qd
                have hnew1 : (decide (0 < i ∧ i < s.size) && foundF (rs.take (k + 1)) s i) = (decide (0 < i ∧ i < s.size) && foundF (rs.take k) s i) := by rw [hnd, hfd]; rfl
                have hnew2 : (decide (0 < i ∧ i < s.size) && decideF (rs.take (k + 1)) s i) = (decide (0 < i ∧ i < s.size) && decideF (rs.take k) s i) := by rw [hnk, if_pos hfd]
                clear hnd hnk hno
                have HDN : Hid (wr.rowIs D 4 (s.size + 1) (fun j => .bool (if j < i + 1 then decide (0 < j ∧ j < s.size) && foundF (rs.take (k + 1)) s j else decide (0 < j ∧ j < s.size) && foundF (rs.take k) s j))) := HDi.out.congr fun j hj => by
                  by_cases h : j = i
                  · rw [if_neg (by omega), if_pos (by omega), h, hnew1]
                  · by_cases h2 : j < i
                    · rw [if_pos h2, if_pos (by omega)]
                    · rw [if_neg h2, if_neg (by omega)]
                have HKN : Hid (wr.rowIs K 4 (s.size + 1) (fun j => .bool (if j < i + 1 then decide (0 < j ∧ j < s.size) && decideF (rs.take (k + 1)) s j else decide (0 < j ∧ j < s.size) && decideF (rs.take k) s j))) := HKi.out.congr fun j hj => by
                  by_cases h : j = i
                  · rw [if_neg (by omega), if_pos (by omega), h, hnew2]
                  · by_cases h2 : j < i
                    · rw [if_pos h2, if_pos (by omega)]
                    · rw [if_neg h2, if_neg (by omega)]
                clear hnew1 hnew2
                go_wp2_with fail
                go_roundg (s.size + 1 - (i + 1))
                case measure => omega
                case rel => exact ⟨i + 1, by go_num, by omega, by omega, HDN.out, HKN.out, HG1i.out, HG2i.out, z0i, HBi.out, Nat.le_refl _⟩
              | false =>
                rw [hfd] at qd
                cases hsb : suffixF r.bf (s.extract 0 i) with
                | false =>
                  rw [hsb] at qb
                  have hnew1 : (decide (0 < i ∧ i < s.size) && foundF (rs.take (k + 1)) s i) = (decide (0 < i ∧ i < s.size) && foundF (rs.take k) s i) := by rw [hnd, hfd, hsb]; rfl
                  have hnew2 : (decide (0 < i ∧ i < s.size) && decideF (rs.take (k + 1)) s i) = (decide (0 < i ∧ i < s.size) && decideF (rs.take k) s i) := by rw [hnk, if_neg (by rw [hfd]; exact Bool.false_ne_true), hsb, hno hfd]; rfl
                  clear hnd hnk hno
                  have HDN : Hid (wr.rowIs D 4 (s.size + 1) (fun j => .bool (if j < i + 1 then decide (0 < j ∧ j < s.size) && foundF (rs.take (k + 1)) s j else decide (0 < j ∧ j < s.size) && foundF (rs.take k) s j))) := HDi.out.congr fun j hj => by
                    by_cases h : j = i
                    · rw [if_neg (by omega), if_pos (by omega), h, hnew1]
                    · by_cases h2 : j < i
                      · rw [if_pos h2, if_pos (by omega)]
                      · rw [if_neg h2, if_neg (by omega)]
                  have HKN : Hid (wr.rowIs K 4 (s.size + 1) (fun j => .bool (if j < i + 1 then decide (0 < j ∧ j < s.size) && decideF (rs.take (k + 1)) s j else decide (0 < j ∧ j < s.size) && decideF (rs.take k) s j))) := HKi.out.congr fun j hj => by
                    by_cases h : j = i
                    · rw [if_neg (by omega), if_pos (by omega), h, hnew2]
                    · by_cases h2 : j < i
                      · rw [if_pos h2, if_pos (by omega)]
                      · rw [if_neg h2, if_neg (by omega)]
                  clear hnew1 hnew2
                  go_wp2_with fail
                  go_roundg (s.size + 1 - (i + 1))
                  case measure => omega
                  case rel => exact ⟨i + 1, by go_num, by omega, by omega, HDN.out, HKN.out, HG1i.out, HG2i.out, z0i, HBi.out, Nat.le_refl _⟩
                | true =>
                  rw [hsb] at qb
                  cases hpa : prefixF r.af (s.extract i s.size) with
                  | false =>
                    rw [hpa] at qa
                    have hnew1 : (decide (0 < i ∧ i < s.size) && foundF (rs.take (k + 1)) s i) = (decide (0 < i ∧ i < s.size) && foundF (rs.take k) s i) := by rw [hnd, hfd, hsb, hpa]; rfl
                    have hnew2 : (decide (0 < i ∧ i < s.size) && decideF (rs.take (k + 1)) s i) = (decide (0 < i ∧ i < s.size) && decideF (rs.take k) s i) := by rw [hnk, if_neg (by rw [hfd]; exact Bool.false_ne_true), hsb, hpa, hno hfd]; rfl
                    clear hnd hnk hno
                    have HDN : Hid (wr.rowIs D 4 (s.size + 1) (fun j => .bool (if j < i + 1 then decide (0 < j ∧ j < s.size) && foundF (rs.take (k + 1)) s j else decide (0 < j ∧ j < s.size) && foundF (rs.take k) s j))) := HDi.out.congr fun j hj => by
                      by_cases h : j = i
                      · rw [if_neg (by omega), if_pos (by omega), h, hnew1]
                      · by_cases h2 : j < i
                        · rw [if_pos h2, if_pos (by omega)]
                        · rw [if_neg h2, if_neg (by omega)]
                    have HKN : Hid (wr.rowIs K 4 (s.size + 1) (fun j => .bool (if j < i + 1 then decide (0 < j ∧ j < s.size) && decideF (rs.take (k + 1)) s j else decide (0 < j ∧ j < s.size) && decideF (rs.take k) s j))) := HKi.out.congr fun j hj => by
                      by_cases h : j = i
                      · rw [if_neg (by omega), if_pos (by omega), h, hnew2]
                      · by_cases h2 : j < i
                        · rw [if_pos h2, if_pos (by omega)]
                        · rw [if_neg h2, if_neg (by omega)]
                    clear hnew1 hnew2
                    go_wp2_with fail
                    go_roundg (s.size + 1 - (i + 1))
                    case measure => omega
                    case rel => exact ⟨i + 1, by go_num, by omega, by omega, HDN.out, HKN.out, HG1i.out, HG2i.out, z0i, HBi.out, Nat.le_refl _⟩
                  | true =>
                    rw [hpa] at qa
                    have hnew1 : foundF (rs.take (k + 1)) s i = true := by rw [hnd, hfd, hsb, hpa]; rfl
                    have hnew2 : decideF (rs.take (k + 1)) s i = r.br := by rw [hnk, if_neg (by rw [hfd]; exact Bool.false_ne_true), hsb, hpa]; rfl
                    clear hnd hnk hno
                    have fd := HDi.out.frozen i
                    have fk := HKi.out.frozen i
                    have hne : ¬ D = K := by omega
                    have hne2 : ¬ K = D := by omega
                    have HD8 : Hid (((wr.drew.setCell ⟨D, i, none⟩ (.bool true)).setCell ⟨K, i, none⟩ (.bool r.br)).rowIs D 4 (s.size + 1) (fun j => .bool (if j < i + 1 then decide (0 < j ∧ j < s.size) && foundF (rs.take (k + 1)) s j else decide (0 < j ∧ j < s.size) && foundF (rs.take k) s j))) := ((HDi.out.drew.set i (.bool true)).of_block (Below.heap_setCell _ _ _ _ (show D ≠ K by omega))).congr fun j hj => by
                      by_cases h : j = i
                      · rw [if_pos h, if_pos (by omega), h, hnew1, decide_eq_true ⟨hi1, hil⟩]; rfl
                      · rw [if_neg h]
                        by_cases h2 : j < i
                        · rw [if_pos h2, if_pos (by omega)]
                        · rw [if_neg h2, if_neg (by omega)]
                    have HK8 : Hid (((wr.drew.setCell ⟨D, i, none⟩ (.bool true)).setCell ⟨K, i, none⟩ (.bool r.br)).rowIs K 4 (s.size + 1) (fun j => .bool (if j < i + 1 then decide (0 < j ∧ j < s.size) && decideF (rs.take (k + 1)) s j else decide (0 < j ∧ j < s.size) && decideF (rs.take k) s j))) := ((HKi.out.drew.of_block (Below.heap_setCell _ _ _ _ (show K ≠ D by omega))).set i (.bool r.br)).congr fun j hj => by
                      by_cases h : j = i
                      · rw [if_pos h, if_pos (by omega), h, hnew2, decide_eq_true ⟨hi1, hil⟩]; rfl
                      · rw [if_neg h]
                        by_cases h2 : j < i
                        · rw [if_pos h2, if_pos (by omega)]
                        · rw [if_neg h2, if_neg (by omega)]
                    have HG18 : Hid (((wr.drew.setCell ⟨D, i, none⟩ (.bool true)).setCell ⟨K, i, none⟩ (.bool r.br)).rowIs g1 4 (s.size + 1) (fun j => .bool (reachF s r.bf allF j))) := (HG1i.out.drew.of_block (Below.heap_setCell _ _ _ _ (show g1 ≠ D by omega))).of_block (Below.heap_setCell _ _ _ _ (show g1 ≠ K by omega))
                    have HG28 : Hid (((wr.drew.setCell ⟨D, i, none⟩ (.bool true)).setCell ⟨K, i, none⟩ (.bool r.br)).rowIs g2 4 (s.size + 1) (fun j => .bool (reachF bk r.af.reverse allF j))) := (HG2i.out.drew.of_block (Below.heap_setCell _ _ _ _ (show g2 ≠ D by omega))).of_block (Below.heap_setCell _ _ _ _ (show g2 ≠ K by omega))
                    have HZ8 : Hid (((wr.drew.setCell ⟨D, i, none⟩ (.bool true)).setCell ⟨K, i, none⟩ (.bool r.br)).cell? ⟨q, 0, none⟩ = some (.bool r.br)) := by
                      show _ = _
                      rw [World.cell?_of_block (w := wr.drew.setCell ⟨D, i, none⟩ (.bool true)) (Below.heap_setCell _ _ _ _ (show q ≠ K by omega)), World.cell?_of_block (w := wr.drew) (Below.heap_setCell _ _ _ _ (show q ≠ D by omega))]
                      exact z0i
                    have HB8 : Hid (Below w.heap.size w ((wr.drew.setCell ⟨D, i, none⟩ (.bool true)).setCell ⟨K, i, none⟩ (.bool r.br))) := (HBi.out.drew.setCell (p := ⟨D, i, none⟩) (show w.heap.size ≤ D by omega) _).setCell (p := ⟨K, i, none⟩) (show w.heap.size ≤ K by omega) _
                    go_upto_region 14 with fail
                    go_region
                    go_wp2_with fail
                    go_roundg (s.size + 1 - (i + 1))
                    case measure => omega
                    case rel => exact ⟨i + 1, by go_num, by omega, by omega, HD8.out, HK8.out, HG18.out, HG28.out, HZ8.out, HB8.out, Nat.le_refl _⟩
            · have hge : s.size ≤ i := by omega
              have hii : ¬ (i : Int) < (s.size : Int) := by omega
              have HDE : Hid (wr.rowIs D 4 (s.size + 1) (fun j => .bool (decide (0 < j ∧ j < s.size) && foundF (rs.take (k + 1)) s j))) := HDi.out.congr fun j hj => by
                by_cases h : j < i
                · rw [if_pos h]
                · rw [if_neg h, decide_eq_false (by omega)]; rfl
              have HKE : Hid (wr.rowIs K 4 (s.size + 1) (fun j => .bool (decide (0 < j ∧ j < s.size) && decideF (rs.take (k + 1)) s j))) := HKi.out.congr fun j hj => by
                by_cases h : j < i
                · rw [if_pos h]
                · rw [if_neg h, decide_eq_false (by omega)]; rfl
              go_wp2_with fail
              go_roundg (xs.length - (k + 1))
              case measure => omega
              case rel => exact ⟨k + 1, by go_num, by omega, HDE.out, HKE.out, HBi.out, Nat.le_refl _⟩
      · simp only [Act.put, List.setIfInBounds_toArray, List.set_cons_zero, List.set_cons_succ]
        refine wpAny_val 1 (some 36) (.slice uA un uc) (by kernel_rfl) rfl rfl (by kernel_rfl) (ex_load 28 _ (.pointer (some ⟨q, 1, none⟩)) _ rfl (by kernel_rfl) (HL1.out)) ?_
        simp only [Act.put, List.setIfInBounds_toArray, List.set_cons_zero, List.set_cons_succ]
        refine wpAny_call 3 (some 38) (by kernel_rfl) rfl rfl (by kernel_rfl) 50 (#[.slice uA un uc, .string s]) (by go_simp) (ends_any r.bf s _ wr4.drew HU4.out (by omega) hbl0) ?_
        rintro e w5 ⟨g1, rfl, hg1, hr1, hb5⟩
        refine ⟨_, rfl, ?_⟩
        have HL3 : Hid (∀ w', w'.heap = w5.heap → (Instr.loadAt 28 (.pointer (some ⟨q, 2, none⟩))).run Tryd.prog w' = .ok (.slice tA tn tc) w') := fun w' hw' => ld_slice (by rw [World.cell?_of_block (w := w5) (by rw [hw'])]; exact (hb5.cell (p := ⟨q, 2, none⟩) hq4).trans z2)
        change wpAny _ _ _ _ _ _ (Act.put _ (some 38) _) _
        simp only [Act.put, List.setIfInBounds_toArray, List.set_cons_zero, List.set_cons_succ]
        refine wpAny_call 6 (some 41) (by kernel_rfl) rfl rfl (by kernel_rfl) 51 (#[.slice tA tn tc]) (by go_simp) (revp_any r.af _ w5 ((show RdE atC 34 wr4.drew _ _ from HT4.out).below hb5 (Nat.le_refl _)) hal0) ?_
        rintro e w6 ⟨v6, rfl, hr6, hb6⟩
        refine ⟨_, rfl, ?_⟩
        change wpAny _ _ _ _ _ _ (Act.put _ (some 41) _) _
        simp only [Act.put, List.setIfInBounds_toArray, List.set_cons_zero, List.set_cons_succ]
        refine wpAny_call 8 (some 43) (by kernel_rfl) rfl rfl (by kernel_rfl) 50 (#[v6, .string bk]) (by go_simp) (ends_any r.af.reverse bk v6 w6 hr6 (by omega) (by simp; omega)) ?_
        rintro e w7 ⟨g2, rfl, hg2, hr2, hb7⟩
        refine ⟨_, rfl, ?_⟩
        rw [hbks]
        change wpAny _ _ _ _ _ _ (Act.put _ (some 43) _) _
        simp only [Act.put, List.setIfInBounds_toArray, List.set_cons_zero, List.set_cons_succ]
        refine wpAny_at (i := 9) (v := .slice (some ⟨g1, 0, none⟩) (s.size + 1) (s.size + 1)) (some 10) rfl rfl (by kernel_rfl) (by kernel_rfl) (by kernel_rfl) (fun _ _ _ h => h) (by kernel_rfl) (fun _ => ex_assign _ _ rfl (by kernel_rfl)) ?_
        simp only [Act.put, List.setIfInBounds_toArray, List.set_cons_zero, List.set_cons_succ]
        refine wpAny_at (i := 10) (v := .slice (some ⟨g2, 0, none⟩) (s.size + 1) (s.size + 1)) (some 11) rfl rfl (by kernel_rfl) (by kernel_rfl) (by kernel_rfl) (fun _ _ _ h => h) (by kernel_rfl) (fun _ => ex_assign _ _ rfl (by kernel_rfl)) ?_
        simp only [Act.put, List.setIfInBounds_toArray, List.set_cons_zero, List.set_cons_succ]
        refine wpAny_done (by kernel_rfl) ?_ _
        rw [hbks] at hr2
        have HG1 : Hid (w7.rowIs g1 4 (s.size + 1) (fun j => .bool (reachF s r.bf allF j))) := (hr1.of_block (hb6.block _ hr1.lt)).of_block (hb7.block _ (hr1.of_block (hb6.block _ hr1.lt)).lt)
        have HG2 : Hid (w7.rowIs g2 4 (s.size + 1) (fun j => .bool (reachF bk r.af.reverse allF j))) := hr2
        have HBq : Hid (Below wr4.heap.size wr4 w7) := ((below_drewN (Below.refl _ wr4) 1).trans hb5).trans ((hb6.trans (hb7.mono hb6.size)).mono hb5.size)
        have HD7 := Lib.hid (HD4.out.of_block (HBq.out.block _ HD4.out.lt))
        have HK7 := Lib.hid (HK4.out.of_block (HBq.out.block _ HK4.out.lt))
        have HB7 := Lib.hid (HB4.out.trans (HBq.out.mono HB4.out.size))
        have z0w := (HBq.out.cell (p := ⟨q, 0, none⟩) hq4).trans z0
        have hg1q : q < g1 := Nat.lt_of_lt_of_le hq4 hg1
        have hg2q : q < g2 := Nat.lt_of_lt_of_le hq4 (Nat.le_trans (Nat.le_trans hb5.size hb6.size) hg2)
        clear hr1 hr2 hb5 hb6 hb7 HL3 hr6 HBq z0 z1 z2 HL1 HL2 HD4 HK4 HB4 HU4 HT4 HQ hq4
        go_wp2_with fail
        obtain ⟨wo2, HWO2⟩ : ∃ wo, Hid (wo = w7) := ⟨w7, rfl⟩
        go_loopg [12] (s.size + 1) (fun gk iv wr => ∃ i : Nat, iv = .int .i64 i ∧ 1 ≤ i ∧ i ≤ s.size + 1 ∧ Hid (wr.rowIs D 4 (s.size + 1) (fun j => .bool (if j < i then decide (0 < j ∧ j < s.size) && foundF (rs.take (k + 1)) s j else decide (0 < j ∧ j < s.size) && foundF (rs.take k) s j))) ∧ Hid (wr.rowIs K 4 (s.size + 1) (fun j => .bool (if j < i then decide (0 < j ∧ j < s.size) && decideF (rs.take (k + 1)) s j else decide (0 < j ∧ j < s.size) && decideF (rs.take k) s j))) ∧ Hid (wr.rowIs g1 4 (s.size + 1) (fun j => .bool (reachF s r.bf allF j))) ∧ Hid (wr.rowIs g2 4 (s.size + 1) (fun j => .bool (reachF bk r.af.reverse allF j))) ∧ wr.cell? ⟨q, 0, none⟩ = some (.bool r.br) ∧ Hid (Below w.heap.size w wr) ∧ s.size + 1 - i ≤ gk)
        case atStart => exact ⟨1, rfl, Nat.le_refl _, by omega, HD7.out.congr (fun j _ => by
            by_cases h : j < 1
            · rw [if_pos h, show j = 0 by omega]; rfl
            · rw [if_neg h]), HK7.out.congr (fun j _ => by
            by_cases h : j < 1
            · rw [if_pos h, show j = 0 by omega]; rfl
            · rw [if_neg h]), HG1.out, HG2.out, z0w, HB7.out, by omega⟩
        case round =>
          clear HD7 HK7 HG1 HG2 z0w HB7 HWO2
          obtain ⟨i, rfl, hi1, hi2, HDi, HKi, HG1i, HG2i, z0i, HBi, hgki⟩ := hrel
          by_cases hil : i < s.size
          · have hii : (i : Int) < (s.size : Int) := by omega
            have hi0 : (0 : Int) ≤ (i : Int) := by omega
            have hi3 : (i : Int) < (s.size : Int) + 1 := by omega
            obtain ⟨t, ht⟩ : ∃ t, t + i = s.size := ⟨s.size - i, by omega⟩
            have hsub : (s.size : Int) - (i : Int) = (t : Int) := by omega
            have ht0 : (0 : Int) ≤ (t : Int) := by omega
            have ht1 : (t : Int) < (s.size : Int) + 1 := by omega
            have qd := HDi.out.cell (i := i) (by omega)
            rw [if_neg (Nat.lt_irrefl i), decide_eq_true ⟨hi1, hil⟩, Bool.true_and] at qd
            have qk := HKi.out.cell (i := i) (by omega)
            have qb := HG1i.out.cell (i := i) (by omega)
            rw [ends_suf r.bf s i (by omega)] at qb
            have qa := HG2i.out.cell (i := t) (by omega)
            rw [show t = s.size - i by omega, ends_pre r.af hbks HBT.out i (by omega), show s.size - i = t by omega] at qa
            have hnd : foundF (rs.take (k + 1)) s i = (foundF (rs.take k) s i || (suffixF r.bf (s.extract 0 i) && prefixF r.af (s.extract i s.size))) := by rw [HTK.out, found_snoc]; rfl
            have hnk : decideF (rs.take (k + 1)) s i = if foundF (rs.take k) s i = true then decideF (rs.take k) s i else ((suffixF r.bf (s.extract 0 i) && prefixF r.af (s.extract i s.size)) && r.br) := by rw [HTK.out, decide_snoc]; rfl
            have hno := decide_none (rs.take k) s i
            cases hfd : foundF (rs.take k) s i with
            | true =>
              rw [hfd] at qd
              have hnew1 : (decide (0 < i ∧ i < s.size) && foundF (rs.take (k + 1)) s i) = (decide (0 < i ∧ i < s.size) && foundF (rs.take k) s i) := by rw [hnd, hfd]; rfl
              have hnew2 : (decide (0 < i ∧ i < s.size) && decideF (rs.take (k + 1)) s i) = (decide (0 < i ∧ i < s.size) && decideF (rs.take k) s i) := by rw [hnk, if_pos hfd]
              clear hnd hnk hno
              have HDN : Hid (wr.rowIs D 4 (s.size + 1) (fun j => .bool (if j < i + 1 then decide (0 < j ∧ j < s.size) && foundF (rs.take (k + 1)) s j else decide (0 < j ∧ j < s.size) && foundF (rs.take k) s j))) := HDi.out.congr fun j hj => by
                by_cases h : j = i
                · rw [if_neg (by omega), if_pos (by omega), h, hnew1]
                · by_cases h2 : j < i
                  · rw [if_pos h2, if_pos (by omega)]
                  · rw [if_neg h2, if_neg (by omega)]
              have HKN : Hid (wr.rowIs K 4 (s.size + 1) (fun j => .bool (if j < i + 1 then decide (0 < j ∧ j < s.size) && decideF (rs.take (k + 1)) s j else decide (0 < j ∧ j < s.size) && decideF (rs.take k) s j))) := HKi.out.congr fun j hj => by
                by_cases h : j = i
                · rw [if_neg (by omega), if_pos (by omega), h, hnew2]
                · by_cases h2 : j < i
                  · rw [if_pos h2, if_pos (by omega)]
                  · rw [if_neg h2, if_neg (by omega)]
              clear hnew1 hnew2
              go_wp2_with fail
              go_roundg (s.size + 1 - (i + 1))
              case measure => omega
              case rel => exact ⟨i + 1, by go_num, by omega, by omega, HDN.out, HKN.out, HG1i.out, HG2i.out, z0i, HBi.out, Nat.le_refl _⟩
            | false =>
              rw [hfd] at qd
              cases hsb : suffixF r.bf (s.extract 0 i) with
              | false =>
                rw [hsb] at qb
                have hnew1 : (decide (0 < i ∧ i < s.size) && foundF (rs.take (k + 1)) s i) = (decide (0 < i ∧ i < s.size) && foundF (rs.take k) s i) := by rw [hnd, hfd, hsb]; rfl
                have hnew2 : (decide (0 < i ∧ i < s.size) && decideF (rs.take (k + 1)) s i) = (decide (0 < i ∧ i < s.size) && decideF (rs.take k) s i) := by rw [hnk, if_neg (by rw [hfd]; exact Bool.false_ne_true), hsb, hno hfd]; rfl
                clear hnd hnk hno
                have HDN : Hid (wr.rowIs D 4 (s.size + 1) (fun j => .bool (if j < i + 1 then decide (0 < j ∧ j < s.size) && foundF (rs.take (k + 1)) s j else decide (0 < j ∧ j < s.size) && foundF (rs.take k) s j))) := HDi.out.congr fun j hj => by
                  by_cases h : j = i
                  · rw [if_neg (by omega), if_pos (by omega), h, hnew1]
                  · by_cases h2 : j < i
                    · rw [if_pos h2, if_pos (by omega)]
                    · rw [if_neg h2, if_neg (by omega)]
                have HKN : Hid (wr.rowIs K 4 (s.size + 1) (fun j => .bool (if j < i + 1 then decide (0 < j ∧ j < s.size) && decideF (rs.take (k + 1)) s j else decide (0 < j ∧ j < s.size) && decideF (rs.take k) s j))) := HKi.out.congr fun j hj => by
                  by_cases h : j = i
                  · rw [if_neg (by omega), if_pos (by omega), h, hnew2]
                  · by_cases h2 : j < i
                    · rw [if_pos h2, if_pos (by omega)]
                    · rw [if_neg h2, if_neg (by omega)]
                clear hnew1 hnew2
                go_wp2_with fail
                go_roundg (s.size + 1 - (i + 1))
                case measure => omega
                case rel => exact ⟨i + 1, by go_num, by omega, by omega, HDN.out, HKN.out, HG1i.out, HG2i.out, z0i, HBi.out, Nat.le_refl _⟩
              | true =>
                rw [hsb] at qb
                cases hpa : prefixF r.af (s.extract i s.size) with
                | false =>
                  rw [hpa] at qa
                  have hnew1 : (decide (0 < i ∧ i < s.size) && foundF (rs.take (k + 1)) s i) = (decide (0 < i ∧ i < s.size) && foundF (rs.take k) s i) := by rw [hnd, hfd, hsb, hpa]; rfl
                  have hnew2 : (decide (0 < i ∧ i < s.size) && decideF (rs.take (k + 1)) s i) = (decide (0 < i ∧ i < s.size) && decideF (rs.take k) s i) := by rw [hnk, if_neg (by rw [hfd]; exact Bool.false_ne_true), hsb, hpa, hno hfd]; rfl
                  clear hnd hnk hno
                  have HDN : Hid (wr.rowIs D 4 (s.size + 1) (fun j => .bool (if j < i + 1 then decide (0 < j ∧ j < s.size) && foundF (rs.take (k + 1)) s j else decide (0 < j ∧ j < s.size) && foundF (rs.take k) s j))) := HDi.out.congr fun j hj => by
                    by_cases h : j = i
                    · rw [if_neg (by omega), if_pos (by omega), h, hnew1]
                    · by_cases h2 : j < i
                      · rw [if_pos h2, if_pos (by omega)]
                      · rw [if_neg h2, if_neg (by omega)]
                  have HKN : Hid (wr.rowIs K 4 (s.size + 1) (fun j => .bool (if j < i + 1 then decide (0 < j ∧ j < s.size) && decideF (rs.take (k + 1)) s j else decide (0 < j ∧ j < s.size) && decideF (rs.take k) s j))) := HKi.out.congr fun j hj => by
                    by_cases h : j = i
                    · rw [if_neg (by omega), if_pos (by omega), h, hnew2]
                    · by_cases h2 : j < i
                      · rw [if_pos h2, if_pos (by omega)]
                      · rw [if_neg h2, if_neg (by omega)]
                  clear hnew1 hnew2
                  go_wp2_with fail
                  go_roundg (s.size + 1 - (i + 1))
                  case measure => omega
                  case rel => exact ⟨i + 1, by go_num, by omega, by omega, HDN.out, HKN.out, HG1i.out, HG2i.out, z0i, HBi.out, Nat.le_refl _⟩
                | true =>
                  rw [hpa] at qa
                  have hnew1 : foundF (rs.take (k + 1)) s i = true := by rw [hnd, hfd, hsb, hpa]; rfl
                  have hnew2 : decideF (rs.take (k + 1)) s i = r.br := by rw [hnk, if_neg (by rw [hfd]; exact Bool.false_ne_true), hsb, hpa]; rfl
                  clear hnd hnk hno
                  have fd := HDi.out.frozen i
                  have fk := HKi.out.frozen i
                  have hne : ¬ D = K := by omega
                  have hne2 : ¬ K = D := by omega
                  have HD8 : Hid (((wr.drew.setCell ⟨D, i, none⟩ (.bool true)).setCell ⟨K, i, none⟩ (.bool r.br)).rowIs D 4 (s.size + 1) (fun j => .bool (if j < i + 1 then decide (0 < j ∧ j < s.size) && foundF (rs.take (k + 1)) s j else decide (0 < j ∧ j < s.size) && foundF (rs.take k) s j))) := ((HDi.out.drew.set i (.bool true)).of_block (Below.heap_setCell _ _ _ _ (show D ≠ K by omega))).congr fun j hj => by
                    by_cases h : j = i
                    · rw [if_pos h, if_pos (by omega), h, hnew1, decide_eq_true ⟨hi1, hil⟩]; rfl
                    · rw [if_neg h]
                      by_cases h2 : j < i
                      · rw [if_pos h2, if_pos (by omega)]
                      · rw [if_neg h2, if_neg (by omega)]
                  have HK8 : Hid (((wr.drew.setCell ⟨D, i, none⟩ (.bool true)).setCell ⟨K, i, none⟩ (.bool r.br)).rowIs K 4 (s.size + 1) (fun j => .bool (if j < i + 1 then decide (0 < j ∧ j < s.size) && decideF (rs.take (k + 1)) s j else decide (0 < j ∧ j < s.size) && decideF (rs.take k) s j))) := ((HKi.out.drew.of_block (Below.heap_setCell _ _ _ _ (show K ≠ D by omega))).set i (.bool r.br)).congr fun j hj => by
                    by_cases h : j = i
                    · rw [if_pos h, if_pos (by omega), h, hnew2, decide_eq_true ⟨hi1, hil⟩]; rfl
                    · rw [if_neg h]
                      by_cases h2 : j < i
                      · rw [if_pos h2, if_pos (by omega)]
                      · rw [if_neg h2, if_neg (by omega)]
                  have HG18 : Hid (((wr.drew.setCell ⟨D, i, none⟩ (.bool true)).setCell ⟨K, i, none⟩ (.bool r.br)).rowIs g1 4 (s.size + 1) (fun j => .bool (reachF s r.bf allF j))) := (HG1i.out.drew.of_block (Below.heap_setCell _ _ _ _ (show g1 ≠ D by omega))).of_block (Below.heap_setCell _ _ _ _ (show g1 ≠ K by omega))
                  have HG28 : Hid (((wr.drew.setCell ⟨D, i, none⟩ (.bool true)).setCell ⟨K, i, none⟩ (.bool r.br)).rowIs g2 4 (s.size + 1) (fun j => .bool (reachF bk r.af.reverse allF j))) := (HG2i.out.drew.of_block (Below.heap_setCell _ _ _ _ (show g2 ≠ D by omega))).of_block (Below.heap_setCell _ _ _ _ (show g2 ≠ K by omega))
                  have HZ8 : Hid (((wr.drew.setCell ⟨D, i, none⟩ (.bool true)).setCell ⟨K, i, none⟩ (.bool r.br)).cell? ⟨q, 0, none⟩ = some (.bool r.br)) := by
                    show _ = _
                    rw [World.cell?_of_block (w := wr.drew.setCell ⟨D, i, none⟩ (.bool true)) (Below.heap_setCell _ _ _ _ (show q ≠ K by omega)), World.cell?_of_block (w := wr.drew) (Below.heap_setCell _ _ _ _ (show q ≠ D by omega))]
                    exact z0i
                  have HB8 : Hid (Below w.heap.size w ((wr.drew.setCell ⟨D, i, none⟩ (.bool true)).setCell ⟨K, i, none⟩ (.bool r.br))) := (HBi.out.drew.setCell (p := ⟨D, i, none⟩) (show w.heap.size ≤ D by omega) _).setCell (p := ⟨K, i, none⟩) (show w.heap.size ≤ K by omega) _
                  go_upto_region 14 with fail
                  go_region
                  go_wp2_with fail
                  go_roundg (s.size + 1 - (i + 1))
                  case measure => omega
                  case rel => exact ⟨i + 1, by go_num, by omega, by omega, HD8.out, HK8.out, HG18.out, HG28.out, HZ8.out, HB8.out, Nat.le_refl _⟩
          · have hge : s.size ≤ i := by omega
            have hii : ¬ (i : Int) < (s.size : Int) := by omega
            have HDE : Hid (wr.rowIs D 4 (s.size + 1) (fun j => .bool (decide (0 < j ∧ j < s.size) && foundF (rs.take (k + 1)) s j))) := HDi.out.congr fun j hj => by
              by_cases h : j < i
              · rw [if_pos h]
              · rw [if_neg h, decide_eq_false (by omega)]; rfl
            have HKE : Hid (wr.rowIs K 4 (s.size + 1) (fun j => .bool (decide (0 < j ∧ j < s.size) && decideF (rs.take (k + 1)) s j))) := HKi.out.congr fun j hj => by
              by_cases h : j < i
              · rw [if_pos h]
              · rw [if_neg h, decide_eq_false (by omega)]; rfl
            go_wp2_with fail
            go_roundg (xs.length - (k + 1))
            case measure => omega
            case rel => exact ⟨k + 1, by go_num, by omega, HDE.out, HKE.out, HBi.out, Nat.le_refl _⟩
    · obtain rfl : k = xs.length := by omega
      have hki : ¬ (xs.length : Int) < (xs.length : Int) := by omega
      have HKF : Hid (wr.rowIs K 4 (s.size + 1) (fun j => .bool (rowB rs s j))) := HK.out.congr fun j hj => by
        rw [List.take_of_length_le hxb]; rfl
      have e0 : uptoN (rowB rs s) (s.size + 1) = breaksF rs s := breaks_row rs s (by omega)
      have E0 := Lib.hid e0
      clear HD HK e0
      obtain ⟨M, hM⟩ : ∃ M, Hid (M = wr.heap.size) := ⟨_, rfl⟩
      have hKM : K < M := by rw [hM.out]; exact HKF.out.lt
      have hwM : w.heap.size ≤ M := by rw [hM.out]; exact HB.out.size
      have hMw : M ≤ wr.heap.size := by rw [hM.out]; exact Nat.le_refl _
      go_wp2_with fail
      obtain ⟨wo3, HWO3⟩ : ∃ wo, Hid (wo = wr) := ⟨wr, rfl⟩
      go_loopg [13, 81] (s.size + 1) (fun gk ov kv wr => ∃ (k : Nat) (q : List Int) (A : Option Addr) (c : Nat), ov = .slice A q.length c ∧ kv = .int .i64 k ∧ k ≤ s.size + 1 ∧ Hid (q = uptoN (rowB rs s) k) ∧ Hid (OwnE 3 intC 1 wr M (.slice A q.length c) q) ∧ Hid (wr.rowIs K 4 (s.size + 1) (fun j => .bool (rowB rs s j))) ∧ M ≤ wr.heap.size ∧ Hid (Below w.heap.size w wr) ∧ q.length ≤ k ∧ s.size + 1 - k ≤ gk)
      case atStart => exact ⟨0, [], none, 0, rfl, rfl, by omega, rfl, OwnE.nil, HKF.out, hMw, HB.out, Nat.le_refl _, by omega⟩
      case round =>
        clear HKF HB hMw HWO3 hM
        obtain ⟨k, q, A, c, rfl, rfl, hk2, HQ, HO, HK2, hMr, HB2, hqk, hgk2⟩ := hrel
        by_cases hkl2 : k < s.size + 1
        · have hkj : (k : Int) < (s.size : Int) + 1 := by omega
          have hk0 : (0 : Int) ≤ (k : Int) := by omega
          have qk := HK2.out.cell (i := k) hkl2
          have HQ2 : Hid (uptoN (rowB rs s) (k + 1) = q ++ if rowB rs s k = true then [(k : Int)] else []) := by show _ = _; rw [uptoN_succ, HQ.out]
          cases hb : rowB rs s k with
          | false =>
            rw [hb] at qk HQ2
            rw [if_neg Bool.false_ne_true, List.append_nil] at HQ2
            go_wp2_with fail
            go_roundg (s.size + 1 - (k + 1))
            case measure => omega
            case rel => exact ⟨k + 1, q, A, c, rfl, by go_num, by omega, HQ2.out.symm, HO.out, HK2.out, hMr, HB2.out, by omega, Nat.le_refl _⟩
          | true =>
            rw [hb] at qk HQ2
            rw [if_pos rfl] at HQ2
            go_wp2_with (at_builtin; go_must (refine wpList_app1 rfl (.tmp 87) (.tmp 89) 32 3 rfl Tryd.underlying32 _ 1 8 int_info6 rfl (by decide) M (.slice A q.length c) q.length (q.flatMap intC) rfl (own_below HO.out ((Below.refl _ wr).alloc (Nat.le_refl _) _) (Nat.le_refl _)) ⟨wr.heap.size, 0, none⟩ 1 (intC k) rfl rfl (cells_new wr (intC k) 3) (intC_oneA k) (by omega) (by decide) (by simp; omega) ?_); intro g9 cap w9 hown9 hbg9 hbel9 hgrow9)
            have hbn := hbel9 M wr (Nat.le_refl _) ((Below.refl M wr).alloc hMr (.cells (intC k).toArray 3))
            have HB9 := Lib.hid (HB2.out.trans (hbn.mono hwM))
            have HO9 : Hid (OwnE 3 intC 1 w9 M (.slice (some ⟨g9, 0, none⟩) (q.length + 1) cap) (q ++ [(k : Int)])) := OwnE.snoc hown9
            have HK9 := Lib.hid (HK2.out.of_block (hbn.block _ hKM))
            have hM9 := Nat.le_trans hMr hbn.size
            clear hown9 hbel9 hgrow9 hbn
            go_wp2_with fail
            go_roundg (s.size + 1 - (k + 1))
            case measure => omega
            case rel => exact ⟨k + 1, q ++ [(k : Int)], some ⟨g9, 0, none⟩, cap, by (show Value.slice _ _ _ = Value.slice _ _ _); rw [List.length_append]; rfl, by go_num, by omega, HQ2.out.symm, by (show OwnE _ _ _ _ _ _ _); rw [List.length_append]; exact HO9.out, HK9.out, hM9, HB9.out, by rw [List.length_append]; show q.length + 1 ≤ k + 1; omega, Nat.le_refl _⟩
        · obtain rfl : k = s.size + 1 := by omega
          have hkj : ¬ (((s.size + 1 : Nat)) : Int) < (s.size : Int) + 1 := by omega
          have E1 : Hid (q = breaksF rs s) := HQ.out.trans E0.out
          go_wp2_with fail
          rw [HRR.out]
          have h := own_base HO.out hwM
          rw [← E1.out]
          exact ⟨_, rfl, h, HB2.out⟩

end Go.Proofs.YtpboaadjbkaidaaDoor

namespace Go.Proofs.YtpboaadjbkaidaaDoor
set_option maxRecDepth 100000
open Go.RowKit

end Go.Proofs.YtpboaadjbkaidaaDoor

namespace Go.Proofs.YtpboaadjbkaidaaDoor
set_option maxRecDepth 100000
open Go.RowKit

set_option maxRecDepth 100000 in
set_option maxHeartbeats 4000000 in
theorem valid_any (p : List At) (pv : Value) (w : World) (hp : RdE atC 34 w pv p) (hl : p.length ≤ 140737488355328) :
    Calls Tryd.prog 59 #[pv] w fun e w' => e = .returned (.int .i64 (validF p)) ∧ Below w.heap.size w w' := by
  obtain ⟨A, c, rfl, hlc, _⟩ := hp.shape
  have HP := Lib.hid hp
  clear hp
  have hu := Tryd.underlying26
  have hi : (Tryd.prog.info? 26).map (·.size) = some 34 := atom_size
  obtain ⟨V, HV⟩ : ∃ V, Hid (V = validF p) := ⟨_, rfl⟩
  rw [← HV.out]
  go_enter Tryd.func59, Tryd.ntmps59
  by_cases h32 : 32 < p.length
  · have h32i : (32 : Int) < (p.length : Int) := by omega
    have HE : Hid (V = 3) := by show _ = _; rw [HV.out]; unfold validF; rw [if_pos h32]
    go_wp2_with fail
    go_ret
    exact ⟨ret_int HE.out.symm, Below.refl _ _⟩
  have h32i : ¬ (32 : Int) < (p.length : Int) := by omega
  have HV1 : Hid (V = if p.all (fun x => x.mn == 0 || x.mn == 1) = true then 0 else 1) := by show _ = _; rw [HV.out]; unfold validF; rw [if_neg h32]
  clear HV
  go_wp2_with fail
  go_loopg [10] p.length (fun n kv wr => ∃ k : Nat, k ≤ p.length ∧ kv = .int .i64 k ∧ Hid (∀ j (h : j < p.length), j < k → (p[j].mn == 0 || p[j].mn == 1) = true) ∧ Hid (Below w.heap.size w wr) ∧ p.length - k ≤ n)
  case atStart => exact ⟨0, by omega, rfl, fun j _ h => absurd h (Nat.not_lt_zero j), Below.refl _ _, by omega⟩
  case round =>
    obtain ⟨k, hk, rfl, HA, HB, hgk⟩ := hrel
    by_cases hkl : k < p.length
    · have hki : (k : Int) < (p.length : Int) := by omega
      obtain ⟨b, o, rfl, hbl, hcell⟩ := HP.out.cells (by omega)
      have hx : p[k]? = some p[k] := List.getElem?_eq_getElem hkl
      have hrg : wr.rangeAt b (o + k * 34) (atC p[k]) := fun j v hj => by
        rw [Nat.add_assoc]
        exact (HB.out.cell (p := ⟨b, o + (k * 34 + j), none⟩) hbl).trans (hcell k _ j v hx hj)
      clear hcell hx
      obtain ⟨x, HX⟩ : ∃ x : At, Hid (x = p[k]) := ⟨p[k], rfl⟩
      rw [← HX.out] at hrg
      have hz := HB.out.size
      have HA1 := Lib.hid ((at_zero wr).row x)
      have HB1 : Hid (Below w.heap.size w ((wr.alloc (.cells #[.int .u8 0, .int .u8 0, .int .u8 0, .int .u8 0, .int .u8 0, .int .u8 0, .int .u8 0, .int .u8 0, .int .u8 0, .int .u8 0, .int .u8 0, .int .u8 0, .int .u8 0, .int .u8 0, .int .u8 0, .int .u8 0, .int .u8 0, .int .u8 0, .int .u8 0, .int .u8 0, .int .u8 0, .int .u8 0, .int .u8 0, .int .u8 0, .int .u8 0, .int .u8 0, .int .u8 0, .int .u8 0, .int .u8 0, .int .u8 0, .int .u8 0, .int .u8 0, .int .i64 0, .bool false] 26)).setRow wr.heap.size (atC x).toArray)) := below_setRow (HB.out.alloc hz _) hz _
      go_upto_region 6 with (first
        | (refine wpList_load_mid rfl 26 (.tmp 12) rfl b (o + k * 34) rfl (atC x) _ hrg hu rfl (by rw [hi, atC_len]) ?_)
        | (refine wpList_store_row rfl 26 (.tmp 4) (.tmp 13) rfl (wr.heap.size) (atC x).toArray rfl rfl 26 (atC ⟨noP, 0, false⟩).toArray (at_zero wr) (by rw [atom_size, atC_size]) (by simp only [atC_size]) (atC_oneA _) ?_))
      clear HB hrg
      generalize hg3 : wr.heap.size = g3 at HA1 HB1 hz ⊢
      generalize (wr.alloc (.cells #[.int .u8 0, .int .u8 0, .int .u8 0, .int .u8 0, .int .u8 0, .int .u8 0, .int .u8 0, .int .u8 0, .int .u8 0, .int .u8 0, .int .u8 0, .int .u8 0, .int .u8 0, .int .u8 0, .int .u8 0, .int .u8 0, .int .u8 0, .int .u8 0, .int .u8 0, .int .u8 0, .int .u8 0, .int .u8 0, .int .u8 0, .int .u8 0, .int .u8 0, .int .u8 0, .int .u8 0, .int .u8 0, .int .u8 0, .int .u8 0, .int .u8 0, .int .u8 0, .int .i64 0, .bool false] 26)).setRow g3 (atC x).toArray = w2 at HA1 HB1 ⊢
      clear hg3
      have q := HA1.out.mn
      by_cases h0 : x.mn = 0
      · have t0 : (x.mn != 0) = false := bne_eq_false_iff_eq.2 h0
        have HA2 : Hid (∀ j (h : j < p.length), j < k + 1 → (p[j].mn == 0 || p[j].mn == 1) = true) := fun j hj hjk => by
          by_cases hj2 : j = k
          · subst hj2; rw [← HX.out, h0]; rfl
          · exact HA.out j hj (by omega)
        clear h0
        go_wp2_with fail
        go_roundg (p.length - (k + 1))
        case measure => omega
        case rel => exact ⟨k + 1, by omega, by go_num, HA2.out, HB1.out, Nat.le_refl _⟩
      · have t0 : (x.mn != 0) = true := bne_iff_ne.2 h0
        by_cases h1 : x.mn = 1
        · have t1 : (x.mn != 1) = false := bne_eq_false_iff_eq.2 h1
          have HA2 : Hid (∀ j (h : j < p.length), j < k + 1 → (p[j].mn == 0 || p[j].mn == 1) = true) := fun j hj hjk => by
            by_cases hj2 : j = k
            · subst hj2; rw [← HX.out, h1]; rfl
            · exact HA.out j hj (by omega)
          clear h0 h1
          go_wp2_with fail
          go_roundg (p.length - (k + 1))
          case measure => omega
          case rel => exact ⟨k + 1, by omega, by go_num, HA2.out, HB1.out, Nat.le_refl _⟩
        · have t1 : (x.mn != 1) = true := bne_iff_ne.2 h1
          have HE : Hid (V = 1) := by
            show _ = _
            rw [HV1.out, if_neg]
            intro ha
            have := List.all_eq_true.1 ha p[k] (List.getElem_mem _)
            rw [← HX.out] at this
            simp at this
            omega
          clear h0 h1
          go_wp2_with fail
          go_ret
          exact ⟨ret_int HE.out.symm, HB1.out⟩
    · have hki : ¬ (k : Int) < (p.length : Int) := by omega
      have HE : Hid (V = 0) := by
        show _ = _
        rw [HV1.out, if_pos]
        refine List.all_eq_true.2 fun x hx => ?_
        obtain ⟨j, hj, rfl⟩ := List.mem_iff_getElem.1 hx
        exact HA.out j hj (by omega)
      go_wp2_with fail
      go_ret
      exact ⟨ret_int HE.out.symm, HB.out⟩

end Go.Proofs.YtpboaadjbkaidaaDoor

namespace Go.Proofs.YtpboaadjbkaidaaDoor
set_option maxRecDepth 100000
open Go.RowKit

end Go.Proofs.YtpboaadjbkaidaaDoor

namespace Go.Proofs.YtpboaadjbkaidaaDoor
set_option maxRecDepth 100000
open Go.RowKit

set_option maxRecDepth 100000 in
set_option maxHeartbeats 4000000 in
theorem rvalid_any (p : List At) (pv : Value) (w : World) (hp : RdE atC 34 w pv p) (hl : p.length ≤ 140737488355328) :
    Calls Tryd.prog 62 #[pv] w fun e w' => e = .returned (.int .i64 (validF p)) ∧ Below w.heap.size w w' := by
  obtain ⟨A, c, rfl, hlc, _⟩ := hp.shape
  have HP := Lib.hid hp
  clear hp
  obtain ⟨V, HV⟩ : ∃ V, Hid (V = validF p) := ⟨_, rfl⟩
  rw [← HV.out]
  go_enter Tryd.func62, Tryd.ntmps62
  by_cases h32 : 32 < p.length
  · have h32i : (32 : Int) < (p.length : Int) := by omega
    have HE : Hid (V = 3) := by show _ = _; rw [HV.out]; unfold validF; rw [if_pos h32]
    go_wp2_with fail
    go_ret
    exact ⟨ret_int HE.out.symm, Below.refl _ _⟩
  have h32i : ¬ (32 : Int) < (p.length : Int) := by omega
  have HV1 : Hid (V = if p.all (fun x => x.mn == 0 || x.mn == 1) = true then 0 else 1) := by show _ = _; rw [HV.out]; unfold validF; rw [if_neg h32]
  clear HV
  go_wp2_with fail
  obtain ⟨w0, HW0⟩ : ∃ w0, Hid (w0 = w) := ⟨w, rfl⟩
  go_loopg [9] p.length (fun n kv wr => ∃ k : Nat, k ≤ p.length ∧ kv = .int .i64 k ∧ Hid (∀ j (h : j < p.length), j < k → (p[j].mn == 0 || p[j].mn == 1) = true) ∧ Hid (Below w.heap.size w wr) ∧ p.length - k ≤ n)
  case atStart => exact ⟨0, by omega, rfl, fun j _ h => absurd h (Nat.not_lt_zero j), Below.refl _ _, by omega⟩
  case round =>
    obtain ⟨k, hk, rfl, HA, HB, hgk⟩ := hrel
    by_cases hkl : k < p.length
    · have hki : (k : Int) < (p.length : Int) := by omega
      have hk0 : (0 : Int) ≤ (k : Int) := by omega
      obtain ⟨b, o, rfl, hbl, hcell⟩ := HP.out.cells (by omega)
      have hx : p[k]? = some p[k] := List.getElem?_eq_getElem hkl
      have qm : wr.cell? ⟨b, o + k * 34 + 32, none⟩ = some (.int .i64 p[k].mn) := by
        rw [Nat.add_assoc]
        exact (HB.out.cell (p := ⟨b, o + (k * 34 + 32), none⟩) hbl).trans (hcell k _ 32 _ hx (atC_mn _))
      clear hcell hx
      obtain ⟨x, HX⟩ : ∃ x : At, Hid (x = p[k]) := ⟨p[k], rfl⟩
      rw [← HX.out] at qm
      by_cases h0 : x.mn = 0
      · have t0 : (x.mn != 0) = false := bne_eq_false_iff_eq.2 h0
        have HA2 : Hid (∀ j (h : j < p.length), j < k + 1 → (p[j].mn == 0 || p[j].mn == 1) = true) := fun j hj hjk => by
          by_cases hj2 : j = k
          · subst hj2; rw [← HX.out, h0]; rfl
          · exact HA.out j hj (by omega)
        clear h0
        go_wp2_with fail
        go_roundg (p.length - (k + 1))
        case measure => omega
        case rel => exact ⟨k + 1, by omega, by go_num, HA2.out, HB.out, Nat.le_refl _⟩
      · have t0 : (x.mn != 0) = true := bne_iff_ne.2 h0
        by_cases h1 : x.mn = 1
        · have t1 : (x.mn != 1) = false := bne_eq_false_iff_eq.2 h1
          have HA2 : Hid (∀ j (h : j < p.length), j < k + 1 → (p[j].mn == 0 || p[j].mn == 1) = true) := fun j hj hjk => by
            by_cases hj2 : j = k
            · subst hj2; rw [← HX.out, h1]; rfl
            · exact HA.out j hj (by omega)
          clear h0 h1
          go_wp2_with fail
          go_roundg (p.length - (k + 1))
          case measure => omega
          case rel => exact ⟨k + 1, by omega, by go_num, HA2.out, HB.out, Nat.le_refl _⟩
        · have t1 : (x.mn != 1) = true := bne_iff_ne.2 h1
          have HE : Hid (V = 1) := by
            show _ = _
            rw [HV1.out, if_neg]
            intro ha
            have := List.all_eq_true.1 ha p[k] (List.getElem_mem _)
            rw [← HX.out] at this
            simp at this
            omega
          clear h0 h1
          go_wp2_with fail
          go_ret
          exact ⟨ret_int HE.out.symm, HB.out⟩
    · have hki : ¬ (k : Int) < (p.length : Int) := by omega
      have HE : Hid (V = 0) := by
        show _ = _
        rw [HV1.out, if_pos]
        refine List.all_eq_true.2 fun x hx => ?_
        obtain ⟨j, hj, rfl⟩ := List.mem_iff_getElem.1 hx
        exact HA.out j hj (by omega)
      go_wp2_with fail
      go_ret
      exact ⟨ret_int HE.out.symm, HB.out⟩

end Go.Proofs.YtpboaadjbkaidaaDoor

namespace Go.Proofs.YtpboaadjbkaidaaDoor
set_option maxRecDepth 100000

end Go.Proofs.YtpboaadjbkaidaaDoor

namespace Go.Proofs.YtpboaadjbkaidaaDoor
set_option maxRecDepth 100000
open Go.RowKit

section
variable {P : Program} {ops : Array Oper} {w : World} {a : Act} {o : Oper}
theorem ex_slice (t : TypeId) (x : Operand) (lo hi : Option Operand) (vx v : Value) (vlo vhi : Option Value) (ho : o.op = .slice t x lo hi none) (hx : a.eval x = vx) (hl : lo.map a.eval = vlo) (hh : hi.map a.eval = vhi) (hr : (Instr.sliceAt t vx vlo vhi none).run P w = .ok v w) : (execOp a.eval o).run P w = .ok (.value v) w := by
  unfold execOp
  simp only [ho, hx, hl, hh, Option.map_none, Sem.run_bind, hr, Result.andThen_ok, Sem.run_pure]
theorem ex_unOp (op : UnOp) (t : TypeId) (x : Operand) (vx v : Value) (ho : o.op = .unOp op t x) (hx : a.eval x = vx) (hr : (Op.unary op vx).run P w = .ok v w) : (execOp a.eval o).run P w = .ok (.value v) w := by
  unfold execOp
  simp only [ho, hx, Sem.run_bind, hr, Result.andThen_ok, Sem.run_pure]
theorem put_comm (d e : Tmp) (v u : Value) (h : d ≠ e) : (a.put (some e) u).put (some d) v = (a.put (some d) v).put (some e) u := by
  unfold Act.put
  simp only
  rw [Array.setIfInBounds_comm _ _ (fun x => h x.symm)]
/-- Two reading operations may come up: both orders end alike. -/
theorem wpAny_both {md : Region.Mode} {QE : Exit → Act → World → Prop} (i j : Nat) (d e : Tmp) (v u : Value) {oi oj : Oper} {fuel : Nat} {listed L : Array Bool} {rs rs2 : List Oper} (hr : Region.ready md ops listed = [i, j]) (hri : Region.ready md ops (listed.setIfInBounds i true) = [j]) (hrj : Region.ready md ops (listed.setIfInBounds j true) = [i])
    (hi : ops.toList.drop i = oi :: rs) (hj : ops.toList.drop j = oj :: rs2) (hd : oi.dst = some d) (he : oj.dst = some e) (hde : d ≠ e) (hij : i ≠ j)
    (hwi : Region.wanted oi (yielded ops a.tmps) = true) (hwj : Region.wanted oj (yielded ops a.tmps) = true) (hwi2 : Region.wanted oi (yielded ops (a.put (some e) u).tmps) = true) (hwj2 : Region.wanted oj (yielded ops (a.put (some d) v).tmps) = true)
    (hv : (execOp a.eval oi).run P w = .ok (.value v) w) (hu : (execOp a.eval oj).run P w = .ok (.value u) w) (hv2 : (execOp (a.put (some e) u).eval oi).run P w = .ok (.value v) w) (hu2 : (execOp (a.put (some d) v).eval oj).run P w = .ok (.value u) w)
    (hL : (listed.setIfInBounds i true).setIfInBounds j true = L) (h : wpAny P md ops QE fuel L ((a.put (some d) v).put (some e) u) w) : wpAny P md ops QE (fuel + 1 + 1) listed a w := by
  refine wpAny_vals i j (some d) (some e) v u hr hi hj hd he hwi hwj hv hu ?_ ?_
  · refine wpAny_val j (some e) u hri hj he hwj2 hu2 ?_
    rw [hL]
    exact h
  · refine wpAny_val i (some d) v hrj hi hd hwi2 hv2 ?_
    rw [Array.setIfInBounds_comm _ _ (fun x => hij x.symm), hL, put_comm d e v u hde]
    exact h
end

end Go.Proofs.YtpboaadjbkaidaaDoor

namespace Go.Proofs.YtpboaadjbkaidaaDoor
set_option maxRecDepth 100000
open Go.RowKit

def DecRet (w : World) (b : Bool) (e : Ending) (w' : World) : Prop := e = .returned (.bool b) ∧ Below w.heap.size w w'
/-- The bounds under which a list of rules is asked. -/
def RuSmall (rs : List Ru) : Prop := rs.length ≤ 1000000 ∧ ∀ r ∈ rs, r.bf.length ≤ 1000000 ∧ r.af.length ≤ 1000000


end Go.Proofs.YtpboaadjbkaidaaDoor

namespace Go.Proofs.YtpboaadjbkaidaaDoor
set_option maxRecDepth 100000
open Go.RowKit

def blkL (v : Value) : List Nat := v.ownBlock.toList
theorem mem_blkL {v : Value} {b : Nat} : b ∈ blkL v ↔ v.ownBlock = some b := by unfold blkL; rw [Option.mem_toList]
theorem Keep.mono {X Y : List Nat} {w : World} {φ : World → Prop} (h : Keep Y w φ) (hXY : ∀ b ∈ X, b ∈ Y) : Keep X w φ :=
  fun u hu hk => h u hu fun b hb hY => hk b hb (fun hx => hY (hXY b hx))

/-- Tables under way; xs: the row's cells; rv: the rules of the last table; ys: their cells. -/
structure TS (eT eR : TypeId) (B : Nat) (w : World) (v : Value) (ts : List Tb) (xs : List TbV) (rv : Sl) (ys : List RuV) : Prop where
  own : OwnE eT tbC 3 w B v xs
  len : xs.length = ts.length
  ident : ∀ (i : Nat) (x : TbV) (t : Tb), xs[i]? = some x → ts[i]? = some t → x.nm = t.nm ∧ x.pa = t.pa
  front : ∀ (i : Nat) (x : TbV) (t : Tb), xs[i]? = some x → ts[i]? = some t → i + 1 < ts.length → Keep (blkL v ++ blkL rv.v) w fun u => RdRu u x.r.v t.rs
  rown : OwnE eR ruC 3 w B rv.v ys
  apart : ∀ k, v.ownBlock = some k → rv.v.ownBlock ≠ some k
  last : ∀ (i : Nat) (x : TbV) (t : Tb), xs[i]? = some x → ts[i]? = some t → i + 1 = ts.length → x.r = rv ∧ ys.length = t.rs.length ∧
    ∀ (j : Nat) (y : RuV) (r : Ru), ys[j]? = some y → t.rs[j]? = some r → y.b = r.br ∧ Keep (blkL v ++ blkL rv.v) w fun u => RdE atC 34 u y.u.v r.bf ∧ RdE atC 34 u y.t.v r.af

section
variable {eT eR : TypeId} {B : Nat} {w w' : World} {v : Value} {ts : List Tb} {xs : List TbV} {rv : Sl} {ys : List RuV}
theorem TS.start : TS eT eR B w (.slice none 0 0) [] [] ⟨none, 0, 0⟩ [] where
  own := OwnE.nil
  len := rfl
  ident := fun _ _ _ h => by simp at h
  front := fun _ _ _ h => by simp at h
  rown := OwnE.nil
  apart := fun k h => by simp [Value.ownBlock] at h
  last := fun _ _ _ h => by simp at h
/-- The rules of the last table. -/
theorem TS.lastRu (h : TS eT eR B w v ts xs rv ys) (i : Nat) (x : TbV) (t : Tb) (hx : xs[i]? = some x) (ht : ts[i]? = some t) (hi : i + 1 = ts.length) {X : List Nat} (hX : ∀ b ∈ X, b ∈ blkL v) : Keep X w fun u => RdRu u x.r.v t.rs := by
  obtain ⟨e, hl, hy⟩ := h.last i x t hx ht hi
  subst e
  have h1 := OwnE.keepX (X := X) ruC_len h.rown (fun b hb => .inr (h.apart b (mem_blkL.1 (hX b hb))))
  intro u hu hk
  refine ⟨ys, h1 u hu hk, hl, fun j y r hyj hrj => ?_⟩
  have h2 := hy j y r hyj hrj
  exact ⟨h2.1, (h2.2.mono (fun b hb => List.mem_append_left _ (hX b hb))) u hu hk⟩
theorem TS.rd (h : TS eT eR B w v ts xs rv ys) : RdTb w v ts := by
  refine ⟨xs, h.own.rd tbC_len, h.len, fun i x t hx ht => ⟨(h.ident i x t hx ht).1, (h.ident i x t hx ht).2, ?_⟩⟩
  have hi : i < ts.length := (List.getElem?_eq_some_iff.1 ht).1
  by_cases hl : i + 1 < ts.length
  · exact (h.front i x t hx ht hl).now
  · exact (h.lastRu i x t hx ht (by omega) (X := []) (by simp)).now
/-- The world turns, but for the rows' blocks. -/
theorem TS.keep (h : TS eT eR B w v ts xs rv ys) (hs : w.heap.size ≤ w'.heap.size) (hk : ∀ b, b < w.heap.size → w'.heap[b]? = w.heap[b]?) : TS eT eR B w' v ts xs rv ys where
  own := own_same h.own fun k hk2 => hk k (h.own.lt k hk2).2
  len := h.len
  ident := h.ident
  front := fun i x t hx ht hl => (h.front i x t hx ht hl).step hs fun b hb hX => ⟨hk b hb, hX⟩
  rown := own_same h.rown fun k hk2 => hk k (h.rown.lt k hk2).2
  apart := h.apart
  last := fun i x t hx ht hl => ⟨(h.last i x t hx ht hl).1, (h.last i x t hx ht hl).2.1, fun j y r hy hr => ⟨((h.last i x t hx ht hl).2.2 j y r hy hr).1, ((h.last i x t hx ht hl).2.2 j y r hy hr).2.step hs fun b hb hX => ⟨hk b hb, hX⟩⟩⟩
theorem TS.below (h : TS eT eR B w v ts xs rv ys) {C : Nat} (hb : Below C w w') (hC : w.heap.size ≤ C) : TS eT eR B w' v ts xs rv ys :=
  h.keep hb.size fun b hlt => hb.block b (Nat.lt_of_lt_of_le hlt hC)
/-- A table more. -/
theorem TS.push (h : TS eT eR B w v ts xs rv ys) {v' : Value} (nm pa : ByteArray) (hown : OwnE eT tbC 3 w' B v' (xs ++ [⟨nm, pa, ⟨none, 0, 0⟩⟩])) (hg : w.grownBy w' v.ownBlock) (hat : v'.ownBlock = v.ownBlock ∨ v'.ownBlock = some w.heap.size) :
    TS eT eR B w' v' (ts ++ [⟨nm, pa, []⟩]) (xs ++ [⟨nm, pa, ⟨none, 0, 0⟩⟩]) ⟨none, 0, 0⟩ [] := by
  have hnew : ∀ b, b < w.heap.size → b ∉ blkL v → w'.heap[b]? = w.heap[b]? ∧ b ∉ blkL v' ++ blkL (Sl.v ⟨none, 0, 0⟩) := fun b hb hX => by
    refine ⟨hg.block b hb (fun e => hX (mem_blkL.2 e.symm)), fun hm => ?_⟩
    rcases List.mem_append.1 hm with hm | hm
    · have := mem_blkL.1 hm
      rcases hat with e | e
      · exact hX (mem_blkL.2 (e ▸ this))
      · rw [e] at this; injection this with this; omega
    · have := mem_blkL.1 hm
      simp [Sl.v, Value.ownBlock] at this
  have hl : ∀ (i : Nat) (x : TbV) (t : Tb), (xs ++ [⟨nm, pa, ⟨none, 0, 0⟩⟩])[i]? = some x → (ts ++ [⟨nm, pa, []⟩])[i]? = some t → (i < ts.length ∧ xs[i]? = some x ∧ ts[i]? = some t) ∨ (i = ts.length ∧ x = ⟨nm, pa, ⟨none, 0, 0⟩⟩ ∧ t = ⟨nm, pa, []⟩) := fun i x t hx ht => by
    have hi : i < ts.length + 1 := by have := (List.getElem?_eq_some_iff.1 ht).1; simpa using this
    by_cases h1 : i < ts.length
    · refine .inl ⟨h1, ?_, ?_⟩
      · rw [List.getElem?_append_left (by rw [h.len]; exact h1)] at hx; exact hx
      · rw [List.getElem?_append_left h1] at ht; exact ht
    · have h2 : i = ts.length := by omega
      subst h2
      refine .inr ⟨rfl, ?_, ?_⟩
      · rw [List.getElem?_append_right (by rw [h.len]; exact Nat.le_refl _), h.len, Nat.sub_self] at hx
        simpa using hx.symm
      · rw [List.getElem?_append_right (Nat.le_refl _), Nat.sub_self] at ht
        simpa using ht.symm
  refine ⟨hown, by simp [h.len], fun i x t hx ht => ?_, fun i x t hx ht hi => ?_, OwnE.nil, fun k _ => by simp [Sl.v, Value.ownBlock], fun i x t hx ht hi => ?_⟩
  · rcases hl i x t hx ht with ⟨_, h2, h3⟩ | ⟨_, rfl, rfl⟩
    · exact h.ident i x t h2 h3
    · exact ⟨rfl, rfl⟩
  · rcases hl i x t hx ht with ⟨h1, h2, h3⟩ | ⟨h1, _, _⟩
    · have hk : Keep (blkL v) w fun u => RdRu u x.r.v t.rs := by
        by_cases h4 : i + 1 < ts.length
        · exact (h.front i x t h2 h3 h4).mono fun b hb => List.mem_append_left _ hb
        · exact h.lastRu i x t h2 h3 (by omega) fun b hb => hb
      exact hk.step hg.size hnew
    · simp at hi; omega
  · rcases hl i x t hx ht with ⟨h1, _, _⟩ | ⟨_, rfl, rfl⟩
    · simp at hi; omega
    · exact ⟨rfl, rfl, fun j y r hy => by simp at hy⟩
theorem addLast_get (r : Ru) : ∀ (ts : List Tb) (n : Nat), ts.length = n + 1 → ∀ (i : Nat) (t : Tb), (addLast ts r)[i]? = some t → (i < n ∧ ts[i]? = some t) ∨ (i = n ∧ ∃ t0, ts[n]? = some t0 ∧ t = ⟨t0.nm, t0.pa, t0.rs ++ [r]⟩)
  | [], n, h, i, t, ht => by simp at h
  | [a], n, h, i, t, ht => by
    obtain rfl : n = 0 := by simpa using h.symm
    cases i with
    | zero => exact .inr ⟨rfl, a, rfl, by simpa [addLast] using ht.symm⟩
    | succ i => simp [addLast] at ht
  | a :: b :: ts, n, h, i, t, ht => by
    obtain ⟨m, rfl⟩ : ∃ m, n = m + 1 := ⟨n - 1, by simp at h; omega⟩
    cases i with
    | zero => exact .inl ⟨by omega, by simpa [addLast] using ht⟩
    | succ i =>
      rcases addLast_get r (b :: ts) m (by simp at h ⊢; omega) i t (by simpa [addLast] using ht) with ⟨h1, h2⟩ | ⟨h1, t0, h2, h3⟩
      · exact .inl ⟨by omega, h2⟩
      · exact .inr ⟨by omega, t0, h2, h3⟩
theorem addLast_len (r : Ru) : ∀ ts : List Tb, (addLast ts r).length = ts.length
  | [] => rfl
  | [_] => rfl
  | a :: b :: ts => by rw [addLast, List.length_cons, addLast_len r (b :: ts)]; rfl
theorem flat_set2 : ∀ (xs : List TbV) (n : Nat) (x : TbV) (r : Sl), xs[n]? = some x → (xs.flatMap tbC).set (n * 3 + 2) r.v = (xs.set n ⟨x.nm, x.pa, r⟩).flatMap tbC
  | [], n, x, r, h => by simp at h
  | a :: xs, 0, x, r, h => by
    obtain rfl : a = x := by simpa using h
    simp [tbC]
  | a :: xs, n + 1, x, r, h => by
    have ih := flat_set2 xs n x r (by simpa using h)
    rw [List.flatMap_cons, List.set_cons_succ, List.flatMap_cons, ← ih, List.set_append_right _ _ (by rw [tbC_len]; omega), tbC_len, show (n + 1) * 3 + 2 - 3 = n * 3 + 2 by omega]
/-- A rule more in the last table. -/
theorem TS.rule (h : TS eT eR B w v ts xs rv ys) (n : Nat) (hn : ts.length = n + 1) (g c : Nat) (hv : v = .slice (some ⟨g, 0, none⟩) (n + 1) c) (x : TbV) (hx : xs[n]? = some x) (r : Ru) (y : RuV) (hy : y.b = r.br)
    (hk : Keep (blkL v ++ blkL rv.v) w fun u => RdE atC 34 u y.u.v r.bf ∧ RdE atC 34 u y.t.v r.af) {rv' : Sl} (hown : OwnE eR ruC 3 w' B rv'.v (ys ++ [y])) (hg : w.grownBy w' rv.v.ownBlock) (hat : rv'.v.ownBlock = rv.v.ownBlock ∨ rv'.v.ownBlock = some w.heap.size) :
    TS eT eR B (w'.setCell ⟨g, n * 3 + 2, none⟩ rv'.v) v (addLast ts r) (xs.set n ⟨x.nm, x.pa, rv'⟩) rv' (ys ++ [y]) := by
  have hgb : v.ownBlock = some g := by rw [hv]; rfl
  have hgl := h.own.lt g hgb
  have hrg := h.apart g hgb
  have hrg' : rv'.v.ownBlock ≠ some g := by
    rcases hat with e | e
    · rw [e]; exact hrg
    · rw [e]; intro e2; injection e2 with e2; omega
  have hnew : ∀ b, b < w.heap.size → b ∉ blkL v ++ blkL rv.v → (w'.setCell ⟨g, n * 3 + 2, none⟩ rv'.v).heap[b]? = w.heap[b]? ∧ b ∉ blkL v ++ blkL rv'.v := fun b hb hX => by
    have h1 : b ≠ g := fun e => hX (List.mem_append_left _ (mem_blkL.2 (e ▸ hgb)))
    have h2 : rv.v.ownBlock ≠ some b := fun e => hX (List.mem_append_right _ (mem_blkL.2 e))
    refine ⟨(heap_setCell_other w' _ b _ h1).trans (hg.block b hb (fun e => h2 e.symm)), fun hm => ?_⟩
    rcases List.mem_append.1 hm with hm | hm
    · exact hX (List.mem_append_left _ hm)
    · have h3 := mem_blkL.1 hm
      rcases hat with e | e
      · exact h2 (e ▸ h3)
      · rw [e] at h3; injection h3 with h3; omega
  have hsz : w.heap.size ≤ (w'.setCell ⟨g, n * 3 + 2, none⟩ rv'.v).heap.size := by
    have := hg.size
    simpa [World.setCell] using this
  have hv1 : OwnE eT tbC 3 w' B v xs := own_same h.own fun k hk2 => by
    rw [hgb] at hk2
    injection hk2 with hk2
    subst hk2
    exact hg.block g hgl.2 (fun e => hrg e.symm)
  have hxl : xs.length = n + 1 := h.len.trans hn
  have hset : ∀ (i : Nat) (z : TbV), (xs.set n ⟨x.nm, x.pa, rv'⟩)[i]? = some z → (i ≠ n ∧ xs[i]? = some z) ∨ (i = n ∧ z = ⟨x.nm, x.pa, rv'⟩) := fun i z hz => by
    by_cases hi : i = n
    · subst hi
      rw [List.getElem?_set_self (by omega)] at hz
      exact .inr ⟨rfl, (Option.some.inj hz).symm⟩
    · rw [List.getElem?_set_ne (fun e => hi e.symm)] at hz
      exact .inl ⟨hi, hz⟩
  refine ⟨?_, by rw [List.length_set, addLast_len]; exact h.len, fun i z t hz ht => ?_, fun i z t hz ht hi => ?_, own_setAt (g := g) hown (fun k hk2 e => hrg' (by rw [hk2, e])) _ _, fun k hk2 => by rw [hgb] at hk2; injection hk2 with hk2; exact hk2 ▸ hrg', fun i z t hz ht hi => ?_⟩
  · have h1 := hv1
    unfold OwnE at h1
    rw [hxl] at h1
    have h0 := h1
    rw [hv] at h0
    have h2 := (h0.stored (n * 3 + 2) rv'.v).1
    unfold OwnE
    rw [List.length_set, hxl, ← flat_set2 xs n x rv' hx, hv]
    exact h2
  · rcases hset i z hz with ⟨h1, h2⟩ | ⟨h1, rfl⟩
    · rcases addLast_get r ts n hn i t ht with ⟨_, h4⟩ | ⟨h3, _⟩
      · exact h.ident i z t h2 h4
      · exact absurd h3 h1
    · rcases addLast_get r ts n hn i t ht with ⟨h3, _⟩ | ⟨_, t0, h4, rfl⟩
      · omega
      · exact h.ident n x t0 hx h4
  · rw [addLast_len, hn] at hi
    rcases hset i z hz with ⟨h1, h2⟩ | ⟨h1, _⟩
    · rcases addLast_get r ts n hn i t ht with ⟨h3, h4⟩ | ⟨h3, _⟩
      · exact (h.front i z t h2 h4 (by omega)).step hsz hnew
      · exact absurd h3 h1
    · omega
  · rw [addLast_len, hn] at hi
    have hin : i = n := by omega
    rcases hset i z hz with ⟨h1, _⟩ | ⟨_, rfl⟩
    · exact absurd hin h1
    · rcases addLast_get r ts n hn i t ht with ⟨h3, _⟩ | ⟨_, t0, h4, rfl⟩
      · omega
      · obtain ⟨_, hl, hy0⟩ := h.last n x t0 hx h4 (by omega)
        refine ⟨rfl, by simp [hl], fun j q p hq hp => ?_⟩
        by_cases hj : j < ys.length
        · rw [List.getElem?_append_left hj] at hq
          rw [List.getElem?_append_left (by omega)] at hp
          exact ⟨(hy0 j q p hq hp).1, (hy0 j q p hq hp).2.step hsz hnew⟩
        · have hj2 : j < ys.length + 1 := by have := (List.getElem?_eq_some_iff.1 hq).1; simpa using this
          obtain rfl : j = ys.length := by omega
          rw [List.getElem?_append_right (Nat.le_refl _), Nat.sub_self] at hq
          rw [List.getElem?_append_right (by omega), hl, Nat.sub_self] at hp
          obtain rfl : y = q := by simpa using hq
          obtain rfl : r = p := by simpa using hp
          exact ⟨hy, hk.step hsz hnew⟩
end

end Go.Proofs.YtpboaadjbkaidaaDoor

namespace Go.Proofs.YtpboaadjbkaidaaDoor
set_option maxRecDepth 100000
open Go.RowKit

theorem place_math (x n : Int) (hn : 1 ≤ n) (hx : x < 0) : -n < x.tmod n ∧ x.tmod n ≤ 0 ∧ (x.tmod n < 0 → x % n = x.tmod n + n) ∧ (¬ x.tmod n < 0 → x % n = x.tmod n) := by
  have h1 : x.tmod n = -((-x) % n) := by
    have h := Int.neg_tmod (-x) n
    rw [Int.neg_neg] at h
    rw [h, Int.tmod_eq_emod_of_nonneg (by omega)]
  have h2 := Int.emod_nonneg (-x) (show n ≠ 0 by omega)
  have h3 := Int.emod_lt_of_pos (-x) (show 0 < n by omega)
  have h4 : x = x.tmod n + n * x.tdiv n := (Int.tmod_add_mul_tdiv x n).symm
  have h5 : x % n = (x.tmod n) % n := by
    conv => lhs; rw [h4]
    exact Int.add_mul_emod_self_left ..
  refine ⟨by omega, by omega, fun hl => ?_, fun hl => ?_⟩
  · rw [h5, ← Int.add_emod_right, Int.emod_eq_of_lt (by omega) (by omega)]
  · rw [h5, Int.emod_eq_of_lt (by omega) (by omega)]

theorem place_any (x n : Int) (w : World) (hx : IntIn x) (hn : 1 ≤ n) (hn2 : n ≤ 1000000) :
    Calls Tryd.prog 14 #[.int .i64 x, .int .i64 n] w fun e w' => e = .returned (.int .i64 (x % n)) ∧ w = w' := by
  obtain ⟨hx1, hx2⟩ := hx
  by_cases h : x < 0
  · obtain ⟨q1, q2, q3, q4⟩ := place_math x n hn h
    by_cases hr : x.tmod n < 0
    · have e := q3 hr
      go_enter Tryd.func14, Tryd.ntmps14
      go_wp2
      go_ret
      exact ⟨ret_int (by omega), rfl⟩
    · have e := q4 hr
      go_enter Tryd.func14, Tryd.ntmps14
      go_wp2
      go_ret
      exact ⟨ret_int (by omega), rfl⟩
  · go_enter Tryd.func14, Tryd.ntmps14
    have hb := Int.emod_nonneg x (show n ≠ 0 by omega)
    have hb2 := Int.emod_lt_of_pos x (show 0 < n by omega)
    go_wp2
    go_ret
    exact ⟨rfl, rfl⟩

end Go.Proofs.YtpboaadjbkaidaaDoor

namespace Go.Proofs.YtpboaadjbkaidaaDoor
set_option maxRecDepth 100000
open Go.RowKit

/-- One item more, texts joined. -/
def normStep (out : List Tk) (x : Tk) : List Tk :=
  if x.k ≠ 1 then out ++ [x] else if x.t.size = 0 then out else match out.getLast? with
    | some y => if y.k = 1 then out.dropLast ++ [⟨1, y.t ++ x.t, 0⟩] else out ++ [⟨1, x.t, 0⟩]
    | none => [⟨1, x.t, 0⟩]
theorem step_other (out : List Tk) (x : Tk) (h : x.k ≠ 1) : normStep out x = out ++ [x] := by rw [normStep, if_pos h]
theorem step_empty (out : List Tk) (x : Tk) (h : x.k = 1) (h2 : x.t.size = 0) : normStep out x = out := by
  rw [normStep, if_neg (by omega), if_pos h2]
theorem step_first (x : Tk) (h : x.k = 1) (h2 : x.t.size ≠ 0) : normStep [] x = [⟨1, x.t, 0⟩] := by
  rw [normStep, if_neg (by omega), if_neg h2]
  rfl
theorem step_join (out : List Tk) (y x : Tk) (h : x.k = 1) (h2 : x.t.size ≠ 0) (hy : y.k = 1) : normStep (out ++ [y]) x = out ++ [⟨1, y.t ++ x.t, 0⟩] := by
  rw [normStep, if_neg (by omega), if_neg h2]
  simp [hy]
theorem step_new (out : List Tk) (y x : Tk) (h : x.k = 1) (h2 : x.t.size ≠ 0) (hy : y.k ≠ 1) : normStep (out ++ [y]) x = out ++ [y] ++ [⟨1, x.t, 0⟩] := by
  rw [normStep, if_neg (by omega), if_neg h2]
  simp [hy]

/-- A normal fragment: no empty text, no two texts side by side, texts without numbers. -/
def Normal : List Tk → Prop
  | [] => True
  | x :: r => (x.k = 1 → x.t.size ≠ 0 ∧ x.d = 0 ∧ ∀ y, r.head? = some y → y.k ≠ 1) ∧ Normal r

theorem Normal.snoc_other (out : List Tk) (x : Tk) (h : Normal out) (hx : x.k ≠ 1) : Normal (out ++ [x]) := by
  induction out with
  | nil => exact ⟨fun h => absurd h hx, trivial⟩
  | cons y r ih =>
    refine ⟨fun hy => ?_, ih h.2⟩
    obtain ⟨a, b, c⟩ := h.1 hy
    refine ⟨a, b, fun z hz => ?_⟩
    cases r with
    | nil => simp at hz; rw [← hz]; exact hx
    | cons u r => exact c z (by simpa using hz)
theorem Normal.snoc_text (out : List Tk) (y x : Tk) (h : Normal (out ++ [y])) (hy : y.k ≠ 1) (h2 : x.t.size ≠ 0) (h3 : x.d = 0) : Normal (out ++ [y] ++ [x]) := by
  induction out with
  | nil => exact ⟨fun h => absurd h hy, fun _ => ⟨h2, h3, fun z hz => by simp at hz⟩, trivial⟩
  | cons u r ih =>
    refine ⟨fun hu => ?_, ih h.2⟩
    obtain ⟨a, b, c⟩ := h.1 hu
    refine ⟨a, b, fun z hz => c z ?_⟩
    cases r with
    | nil => simpa using hz
    | cons u r => simpa using hz
theorem Normal.replace (out : List Tk) (y x : Tk) (h : Normal (out ++ [y])) (hy : y.k = 1) (_h1 : x.k = 1) (h2 : x.t.size ≠ 0) (h3 : x.d = 0) : Normal (out ++ [x]) := by
  induction out with
  | nil => exact ⟨fun _ => ⟨h2, h3, fun z hz => by simp at hz⟩, trivial⟩
  | cons u r ih =>
    refine ⟨fun hu => ?_, ih h.2⟩
    obtain ⟨a, b, c⟩ := h.1 hu
    refine ⟨a, b, fun z hz => ?_⟩
    cases r with
    | nil => exact absurd hy (c y rfl)
    | cons v r => exact c z (by simpa using hz)
theorem Normal.step (out : List Tk) (x : Tk) (h : Normal out) : Normal (normStep out x) := by
  by_cases hk : x.k = 1
  · by_cases h2 : x.t.size = 0
    · rw [step_empty out x hk h2]; exact h
    · rcases List.eq_nil_or_concat out with rfl | ⟨o, y, rfl⟩
      · rw [step_first x hk h2]
        exact ⟨fun _ => ⟨h2, rfl, fun z hz => by simp at hz⟩, trivial⟩
      · rw [List.concat_eq_append] at h ⊢
        by_cases hy : y.k = 1
        · rw [step_join o y x hk h2 hy]
          exact Normal.replace o y _ h hy rfl (by show (y.t ++ x.t).size ≠ 0; rw [ByteArray.size_append]; omega) rfl
        · rw [step_new o y x hk h2 hy]
          exact Normal.snoc_text o y _ h hy h2 rfl
  · rw [step_other out x hk]
    exact Normal.snoc_other out x h hk
/-- Kinds of items. -/
def Kinds (f : List Tk) : Prop := ∀ x ∈ f, 1 ≤ x.k ∧ x.k ≤ 5
theorem Kinds.step (out : List Tk) (x : Tk) (h : Kinds out) (hx : 1 ≤ x.k ∧ x.k ≤ 5) : Kinds (normStep out x) := by
  intro z hz
  by_cases hk : x.k = 1
  · by_cases h2 : x.t.size = 0
    · rw [step_empty out x hk h2] at hz; exact h z hz
    · rcases List.eq_nil_or_concat out with rfl | ⟨o, y, rfl⟩
      · rw [step_first x hk h2] at hz
        simp at hz
        subst hz
        exact ⟨by show (1 : Int) ≤ 1; omega, by show (1 : Int) ≤ 5; omega⟩
      · rw [List.concat_eq_append] at h hz
        by_cases hy : y.k = 1
        · rw [step_join o y x hk h2 hy] at hz
          rcases List.mem_append.1 hz with hz | hz
          · exact h z (List.mem_append.2 (.inl hz))
          · simp at hz
            subst hz
            exact ⟨by show (1 : Int) ≤ 1; omega, by show (1 : Int) ≤ 5; omega⟩
        · rw [step_new o y x hk h2 hy] at hz
          rcases List.mem_append.1 hz with hz | hz
          · exact h z hz
          · simp at hz
            subst hz
            exact ⟨by show (1 : Int) ≤ 1; omega, by show (1 : Int) ≤ 5; omega⟩
  · rw [step_other out x hk] at hz
    rcases List.mem_append.1 hz with hz | hz
    · exact h z hz
    · simp at hz
      subst hz
      exact hx
end Go.Proofs.YtpboaadjbkaidaaDoor

namespace Go.Proofs.YtpboaadjbkaidaaDoor
set_option maxRecDepth 100000
open Go.RowKit

def words : List ByteArray := [⟨#[114, 101, 100]⟩, ⟨#[99, 97, 114]⟩, ⟨#[82, 101, 100]⟩, ⟨#[97]⟩, ⟨#[99, 97, 114, 115]⟩, ⟨#[49, 44, 53]⟩, ⟨#[50, 50]⟩, ⟨#[100, 111, 110, 39, 116]⟩, ⟨#[46]⟩, ⟨#[33]⟩, ⟨#[32]⟩, ⟨#[32, 32]⟩,
  ⟨#[60]⟩, ⟨#[38]⟩, ⟨#[123]⟩, ⟨#[34]⟩, ⟨#[92]⟩, ⟨#[120, 45, 121]⟩, ⟨#[10]⟩, ⟨#[61]⟩, ⟨#[125]⟩, ⟨#[62]⟩, ⟨#[9]⟩, ⟨#[98]⟩]
end Go.Proofs.YtpboaadjbkaidaaDoor

namespace Go.Proofs.YtpboaadjbkaidaaDoor
set_option maxRecDepth 100000
open Go.RowKit

/-- All but block g is as it was. -/
structure But (g : Nat) (w w' : World) : Prop where
  os : w'.os = w.os
  tape : w'.tape = w.tape
  output : w'.output = w.output
  size : w.heap.size ≤ w'.heap.size
  block : ∀ k, k < w.heap.size → k ≠ g → w'.heap[k]? = w.heap[k]?
theorem But.refl (g : Nat) (w : World) : But g w w := ⟨rfl, rfl, rfl, Nat.le_refl _, fun _ _ _ => rfl⟩
theorem But.trans {g : Nat} {a b c : World} (h : But g a b) (k : But g b c) : But g a c :=
  ⟨k.os.trans h.os, k.tape.trans h.tape, k.output.trans h.output, Nat.le_trans h.size k.size, fun i hi hn => (k.block i (Nat.lt_of_lt_of_le hi h.size) hn).trans (h.block i hi hn)⟩
theorem But.of_below {g : Nat} {w w' : World} (h : Below w.heap.size w w') : But g w w' := ⟨h.os, h.tape, h.output, h.size, fun k hk _ => h.block k hk⟩
theorem But.below {g B : Nat} {w w' : World} (h : But g w w') (hB : B ≤ g) (hg : g ≤ w.heap.size) : Below B w w' := ⟨h.os, h.tape, h.output, h.size, fun k hk => h.block k (by omega) (by omega)⟩
theorem But.alloc {g : Nat} {a w : World} (h : But g a w) (o : Obj) : But g a (w.alloc o) := h.trans (.of_below ((Below.refl _ _).alloc (Nat.le_refl _) o))
theorem But.drewN {g : Nat} {a w : World} (h : But g a w) (n : Nat) : But g a (w.drewN n) := ⟨h.os, h.tape, h.output, h.size, h.block⟩
theorem But.set {g : Nat} {a w : World} (h : But g a w) (o : Nat) (u : Value) : But g a (w.setCell ⟨g, o, none⟩ u) := by
  refine h.trans ⟨rfl, rfl, rfl, by simp [World.setCell], fun k hk hn => Below.heap_setCell _ _ _ _ hn⟩

/-- Block g holds Numbers: the list L (it lies below g), at place N. -/
def Nums (w : World) (g : Nat) (L : List Int) (N : Nat) : Prop := ∃ v W0, w.heap[g]? = some (.cells #[v, .int .i64 N] 62) ∧ RdE intC 1 W0 v L ∧ W0.heap.size ≤ g ∧ (∀ k, k < W0.heap.size → w.heap[k]? = W0.heap[k]?) ∧ (∀ x ∈ L, IntIn x)
theorem Nums.lt {w : World} {g : Nat} {L : List Int} {N : Nat} (h : Nums w g L N) : g < w.heap.size := by
  obtain ⟨v, W0, h, _⟩ := h
  exact (Array.getElem?_eq_some_iff.1 h).1
theorem Nums.keep {w w' : World} {g : Nat} {L : List Int} {N : Nat} (h : Nums w g L N) (hk : ∀ k, k < w.heap.size → w'.heap[k]? = w.heap[k]?) : Nums w' g L N := by
  have hlt := h.lt
  obtain ⟨v, W0, h1, h2, h3, h4, h5⟩ := h
  exact ⟨v, W0, (hk g hlt).trans h1, h2, h3, fun k hk' => (hk k (by omega)).trans (h4 k hk'), h5⟩
theorem Nums.below {w w' : World} {g : Nat} {L : List Int} {N B : Nat} (h : Nums w g L N) (hb : Below B w w') (hB : w.heap.size ≤ B) : Nums w' g L N := h.keep fun k hk => hb.block k (by omega)
theorem Nums.alloc {w : World} {g : Nat} {L : List Int} {N : Nat} (h : Nums w g L N) (o : Obj) : Nums (w.alloc o) g L N := h.keep fun _ hk => Below.heap_alloc _ _ _ hk

end Go.Proofs.YtpboaadjbkaidaaDoor

namespace Go.Proofs.YtpboaadjbkaidaaDoor
set_option maxRecDepth 100000
open Go.RowKit

end Go.Proofs.YtpboaadjbkaidaaDoor

namespace Go.Proofs.YtpboaadjbkaidaaDoor
set_option maxRecDepth 100000
open Go.RowKit

theorem AtIn.lt {w : World} {g : Nat} {x : At} (h : AtIn w g x) : g < w.heap.size := (Array.getElem?_eq_some_iff.1 h).1
theorem But.bel {g : Nat} {a b c : World} (h : But g a b) (k : Below a.heap.size b c) (hs : a.heap.size ≤ b.heap.size) : But g a c :=
  ⟨k.os.trans h.os, k.tape.trans h.tape, k.output.trans h.output, Nat.le_trans hs k.size, fun i hi hn => (k.block i hi).trans (h.block i hi hn)⟩
end Go.Proofs.YtpboaadjbkaidaaDoor

namespace Go.Proofs.YtpboaadjbkaidaaDoor
set_option maxRecDepth 100000
open Go.RowKit

/-- Rules under way; ys: the row's cells; X: other blocks that may change. -/
structure RS (eR : TypeId) (X : List Nat) (B : Nat) (w : World) (v : Value) (rs : List Ru) (ys : List RuV) : Prop where
  own : OwnE eR ruC 3 w B v ys
  len : ys.length = rs.length
  each : ∀ (j : Nat) (y : RuV) (r : Ru), ys[j]? = some y → rs[j]? = some r → y.b = r.br ∧ Keep (X ++ blkL v) w fun u => RdE atC 34 u y.u.v r.bf ∧ RdE atC 34 u y.t.v r.af
  below : ∀ b ∈ X, b < B
section
variable {eR : TypeId} {X : List Nat} {B : Nat} {w w' : World} {v v' : Value} {rs : List Ru} {ys : List RuV}
theorem RS.start (hX : ∀ b ∈ X, b < B) : RS eR X B w (.slice none 0 0) [] [] where
  own := OwnE.nil
  len := rfl
  each := fun _ _ _ h => by simp at h
  below := hX
theorem RS.rd (h : RS eR X B w v rs ys) : RdRu w v rs :=
  ⟨ys, h.own.rd ruC_len, h.len, fun i y r hy hr => ⟨(h.each i y r hy hr).1, (h.each i y r hy hr).2.now.1, (h.each i y r hy hr).2.now.2⟩⟩
/-- The world turns, but for the row's block and X. -/
theorem RS.keep (h : RS eR X B w v rs ys) (hs : w.heap.size ≤ w'.heap.size) (hk : ∀ b, b < w.heap.size → b ∉ X → w'.heap[b]? = w.heap[b]?) : RS eR X B w' v rs ys where
  own := own_same h.own fun k hk2 => hk k (h.own.lt k hk2).2 (fun hX => by have := h.below k hX; have := (h.own.lt k hk2).1; omega)
  len := h.len
  each := fun i y r hy hr => ⟨(h.each i y r hy hr).1, (h.each i y r hy hr).2.step hs fun b hb hX => ⟨hk b hb (fun e => hX (List.mem_append_left _ e)), hX⟩⟩
  below := h.below
/-- A rule more. -/
theorem RS.push (h : RS eR X B w v rs ys) (hB : B ≤ w.heap.size) (r : Ru) (y : RuV) (hy : y.b = r.br) (hk : Keep (X ++ blkL v) w fun u => RdE atC 34 u y.u.v r.bf ∧ RdE atC 34 u y.t.v r.af)
    (hown : OwnE eR ruC 3 w' B v' (ys ++ [y])) (hg : w.grownBy w' v.ownBlock) (hat : v'.ownBlock = v.ownBlock ∨ v'.ownBlock = some w.heap.size) : RS eR X B w' v' (rs ++ [r]) (ys ++ [y]) := by
  have hnew : ∀ b, b < w.heap.size → b ∉ X ++ blkL v → w'.heap[b]? = w.heap[b]? ∧ b ∉ X ++ blkL v' := fun b hb hX => by
    have h2 : v.ownBlock ≠ some b := fun e => hX (List.mem_append_right _ (mem_blkL.2 e))
    refine ⟨hg.block b hb (fun e => h2 e.symm), fun hm => ?_⟩
    rcases List.mem_append.1 hm with hm | hm
    · exact hX (List.mem_append_left _ hm)
    · have h3 := mem_blkL.1 hm
      rcases hat with e | e
      · exact h2 (e ▸ h3)
      · rw [e] at h3; injection h3 with h3; omega
  refine ⟨hown, by simp [h.len], fun j q p hq hp => ?_, h.below⟩
  by_cases hj : j < ys.length
  · rw [List.getElem?_append_left hj] at hq
    rw [List.getElem?_append_left (by rw [← h.len]; exact hj)] at hp
    exact ⟨(h.each j q p hq hp).1, (h.each j q p hq hp).2.step hg.size hnew⟩
  · have hj2 : j < ys.length + 1 := by have := (List.getElem?_eq_some_iff.1 hq).1; simpa using this
    obtain rfl : j = ys.length := by omega
    rw [List.getElem?_append_right (Nat.le_refl _), Nat.sub_self] at hq
    rw [List.getElem?_append_right (by rw [h.len]; exact Nat.le_refl _), h.len, Nat.sub_self] at hp
    obtain rfl : y = q := by simpa using hq
    obtain rfl : r = p := by simpa using hp
    exact ⟨hy, hk.step hg.size hnew⟩
end

end Go.Proofs.YtpboaadjbkaidaaDoor

namespace Go.Proofs
set_option maxRecDepth 100000
open Go.Shelf
def Tryd.lays145_ren : Go.Shelf.Ren := ⟨fun | 145 => 52 | 220 => 85 | 219 => 100 | 217 => 106 | 225 => 107 | 224 => 108 | 267 => 109 | 266 => 115 | 314 => 116 | n => n, fun | 9 => 9 | 4 => 4 | 59 => 89 | 3 => 3 | 5 => 5 | 46 => 71 | 146 => 130 | 51 => 129 | n => n, fun | 1 => 0 | n => n⟩
theorem Tryd.lays145 : Go.Proofs.Lays.n145 Tryd.prog Tryd.lays145_ren := {
  mixed := by kernel_rfl
  f145 := Tryd.func52.trans (congrArg some (by kernel_rfl))
  f217 := Tryd.func106.trans (congrArg some (by kernel_rfl))
  f219 := Tryd.func100.trans (congrArg some (by kernel_rfl))
  f220 := Tryd.func85.trans (congrArg some (by kernel_rfl))
  f224 := Tryd.func108.trans (congrArg some (by kernel_rfl))
  f225 := Tryd.func107.trans (congrArg some (by kernel_rfl))
  f266 := Tryd.func115.trans (congrArg some (by kernel_rfl))
  f267 := Tryd.func109.trans (congrArg some (by kernel_rfl))
  f314 := Tryd.func116.trans (congrArg some (by kernel_rfl))
  t3 := Tryd.underlying3
  a3 := Tryd.isAgg3
  z3 := Tryd.sizeOf3
  v3 := Tryd.zeroValue3
  t4 := Tryd.underlying4
  a4 := Tryd.isAgg4
  z4 := Tryd.sizeOf4
  v4 := Tryd.zeroValue4
  t5 := Tryd.underlying5
  a5 := Tryd.isAgg5
  z5 := Tryd.sizeOf5
  v5 := Tryd.zeroValue5
  t9 := Tryd.underlying9
  a9 := Tryd.isAgg9
  z9 := Tryd.sizeOf9
  v9 := Tryd.zeroValue9
  t46 := Tryd.underlying71
  a46 := Tryd.isAgg71
  z46 := Tryd.sizeOf71
  v46 := Tryd.zeroValue71
  t51 := Tryd.underlying129
  a51 := Tryd.isAgg129
  z51 := Tryd.sizeOf129
  v51 := Tryd.zeroValue129
  t59 := Tryd.underlying89
  a59 := Tryd.isAgg89
  z59 := Tryd.sizeOf89
  v59 := Tryd.zeroValue89
  t146 := Tryd.underlying130
  a146 := Tryd.isAgg130
  z146 := Tryd.sizeOf130
  v146 := Tryd.zeroValue130
  g1 := by kernel_rfl }
open Go.RowKit Go.Lib in
/-- strings.Cut: "Cut slices s around the first instance of sep, returning the text before and after sep. The found result reports whether sep appears in s. If sep does not appear in s, cut returns s, "", false.": IT RETURNS 'Lib.cut s sep'; the world is as it was but for the count of draws. (LAID: no walk: one application.) -/
theorem Tryd.strings_Cut (s sep : ByteArray) (m : Int) (w : World) (hs : s.size < 4294967281) (hm : w.cell? ⟨0, 0, none⟩ = some (.int .i64 m)) :
    Calls Tryd.prog 52 #[.string s, .string sep] w fun e w' => e = .returned (.tuple #[.string ⟨(Lib.cut s.data.toList sep.data.toList).1.toArray⟩, .string ⟨(Lib.cut s.data.toList sep.data.toList).2.1.toArray⟩, .bool (Lib.cut s.data.toList sep.data.toList).2.2]) ∧ ∃ n, w' = w.drewN n := Any.strings_Cut Tryd.lays145 s sep m w hs hm
def Tryd.lays146_ren : Go.Shelf.Ren := ⟨fun | 146 => 86 | 221 => 101 | 268 => 110 | 138 => 111 | 143 => 112 | 195 => 117 | 197 => 118 | 218 => 119 | 219 => 100 | 260 => 126 | 217 => 106 | 225 => 107 | 224 => 108 | 267 => 109 | 266 => 115 | 314 => 116 | n => n, fun | 9 => 9 | 31 => 68 | 3 => 3 | 4 => 4 | 0 => 0 | 105 => 133 | 21 => 21 | 5 => 5 | 46 => 71 | 119 => 153 | 139 => 156 | 138 => 155 | 146 => 130 | 51 => 129 | n => n, fun | 1 => 0 | 3 => 1 | 4 => 2 | n => n⟩
theorem Tryd.lays146 : Go.Proofs.Lays.n146 Tryd.prog Tryd.lays146_ren := {
  mixed := by kernel_rfl
  f138 := Tryd.func111.trans (congrArg some (by kernel_rfl))
  f143 := Tryd.func112.trans (congrArg some (by kernel_rfl))
  f146 := Tryd.func86.trans (congrArg some (by kernel_rfl))
  f195 := Tryd.func117.trans (congrArg some (by kernel_rfl))
  f197 := Tryd.func118.trans (congrArg some (by kernel_rfl))
  f217 := Tryd.func106.trans (congrArg some (by kernel_rfl))
  f218 := Tryd.func119.trans (congrArg some (by kernel_rfl))
  f219 := Tryd.func100.trans (congrArg some (by kernel_rfl))
  f221 := Tryd.func101.trans (congrArg some (by kernel_rfl))
  f224 := Tryd.func108.trans (congrArg some (by kernel_rfl))
  f225 := Tryd.func107.trans (congrArg some (by kernel_rfl))
  f260 := Tryd.func126.trans (congrArg some (by kernel_rfl))
  f266 := Tryd.func115.trans (congrArg some (by kernel_rfl))
  f267 := Tryd.func109.trans (congrArg some (by kernel_rfl))
  f268 := Tryd.func110.trans (congrArg some (by kernel_rfl))
  f314 := Tryd.func116.trans (congrArg some (by kernel_rfl))
  t0 := Tryd.underlying0
  a0 := Tryd.isAgg0
  z0 := Tryd.sizeOf0
  v0 := Tryd.zeroValue0
  t3 := Tryd.underlying3
  a3 := Tryd.isAgg3
  z3 := Tryd.sizeOf3
  v3 := Tryd.zeroValue3
  t4 := Tryd.underlying4
  a4 := Tryd.isAgg4
  z4 := Tryd.sizeOf4
  v4 := Tryd.zeroValue4
  t5 := Tryd.underlying5
  a5 := Tryd.isAgg5
  z5 := Tryd.sizeOf5
  v5 := Tryd.zeroValue5
  t9 := Tryd.underlying9
  a9 := Tryd.isAgg9
  z9 := Tryd.sizeOf9
  v9 := Tryd.zeroValue9
  t21 := Tryd.underlying21
  a21 := Tryd.isAgg21
  z21 := Tryd.sizeOf21
  v21 := Tryd.zeroValue21
  t31 := Tryd.underlying68
  a31 := Tryd.isAgg68
  z31 := Tryd.sizeOf68
  v31 := Tryd.zeroValue68
  t46 := Tryd.underlying71
  a46 := Tryd.isAgg71
  z46 := Tryd.sizeOf71
  v46 := Tryd.zeroValue71
  t51 := Tryd.underlying129
  a51 := Tryd.isAgg129
  z51 := Tryd.sizeOf129
  v51 := Tryd.zeroValue129
  t105 := Tryd.underlying133
  a105 := Tryd.isAgg133
  z105 := Tryd.sizeOf133
  v105 := Tryd.zeroValue133
  t119 := Tryd.underlying153
  a119 := Tryd.isAgg153
  z119 := Tryd.sizeOf153
  t138 := Tryd.underlying155
  a138 := Tryd.isAgg155
  z138 := Tryd.sizeOf155
  v138 := Tryd.zeroValue155
  t139 := Tryd.underlying156
  a139 := Tryd.isAgg156
  z139 := Tryd.sizeOf156
  v139 := Tryd.zeroValue156
  t146 := Tryd.underlying130
  a146 := Tryd.isAgg130
  z146 := Tryd.sizeOf130
  v146 := Tryd.zeroValue130
  g1 := by kernel_rfl
  g3 := by kernel_rfl
  g4 := by kernel_rfl }
open Go.RowKit Go.Lib in
/-- strings.Split. (LAID: no walk: one application.) -/
theorem Tryd.strings_Split (s sep : ByteArray) (m : Int) (w : World) (hs : s.size < 4294967281) (hm : w.cell? ⟨0, 0, none⟩ = some (.int .i64 m)) (h1 : 1 ≤ sep.size) :
    Calls Tryd.prog 86 #[.string s, .string sep] w fun e w' =>
      e = .returned (.slice (some ⟨w.heap.size, 0, none⟩) (Lib.countB s sep + 1) (Lib.countB s sep + 1)) ∧ w' = w.alloc (.cells ((Lib.splitB sep 0 (Lib.countB s sep) s).map Value.string).toArray 9) := Any.strings_Split Tryd.lays146 (by kernel_rfl) s sep m w hs hm h1
end Go.Proofs

namespace Go.Proofs.YtpboaadjbkaidaaDoor
set_option maxRecDepth 100000
open Go.ChangeShapes Go.WideShapes Go.ChangeAt Go.RowKit

theorem returnsInHanded_both {H : Type} {enc : TypeId × Value → H} {a : Assume} {C : Checked} {os : Os} {f : FuncId} {fn : Func} {s : ChangeSpec} {conds : List PathCond} {apart fresh handsOn again : Bool} {X : World → Array Value → Prop}
    (hX : ∀ (w w' : World) (args : Array Value), w.heap = w'.heap → X w args → X w' args)
    (own : ownKnob C.prog.godebug = none) (started : os.Started) (noInit : C.prog.inits.idxOf? f = none) (hfn : C.prog.funcs[f]? = some fn)
    (witness : ∃ (w : World) (tape : Tape) (i : Input), w.os = os ∧ (w.forCall tape i).Shaped C.prog ∧ i.vars = [] ∧ Input.okWide C.prog (w.forCall tape i) .any w.heap.size f i ∧
      ((s.pre enc C.prog fn conds apart (w.forCall tape i).memory i.args ∧ X (w.forCall tape i).memory i.args) ∧ sizedMet enc C.prog fn (OpenSpec.ofChange s) apart (w.forCall tape i).memory i.args) ∧ a.holds C.prog (lone (Frame.enter C.prog f i.args .normal) [] (w.forCall tape i)))
    (contract : ∀ (W : World) (base : Nat) (args : Array Value) (ds gs : List (DataW H)) (before : List MemPlace),
      (∀ (j : Nat) t v, fn.params[j]? = some t → args[j]? = some v → Value.okWide C.prog W .any base t v) →
      DataW.Whole enc C.prog fn.params.toList s.vars apart W args.toList ds gs before →
      conds.all (PathCond.test C.prog ⟨fn.params.toList, ds, s.plain.varTypes C.prog, gs⟩) = true →
      (DataW.weightsEach C.prog (fn.params.toList ++ s.plain.varTypes C.prog) (ds ++ gs)).all (· ≤ reachBytes) = true → W.ShapedOpen C.prog → X W args →
      a.holds C.prog (lone (Frame.enter C.prog f args .normal) [] W) →
      Calls C.prog f args W fun e W' => ∃ v, e = .returned v ∧ s.post enc C.prog fn apart fresh handsOn again W args v W') :
    ReturnsInHanded a C os f .any (fun w args => (s.pre enc C.prog fn conds apart w args ∧ X w args) ∧ sizedMet enc C.prog fn (OpenSpec.ofChange s) apart w args) (s.post enc C.prog fn apart fresh handsOn again) := by
  refine returnsInHanded_of_calls own started noInit witness ?_
  intro w tape i _ hsh _ hok hpre hholds
  obtain ⟨_, _, _, fn', hfn', _, _, _, _, hval⟩ := hok
  have e : fn' = fn := Option.some.inj (hfn'.symm.trans hfn)
  subst e
  obtain ⟨⟨⟨ds, gs, before, hw, hc⟩, hx⟩, hz⟩ := hpre
  have hw' := DataW.Whole.of_heap (w' := w.forCall tape i) (by rfl) hw
  refine (contract (w.forCall tape i) w.heap.size i.args ds gs before hval hw' hc (hz.weights hw) hsh (hX _ _ _ (by rfl) hx) hholds).mono fun e W' ⟨v, he, hp⟩ => ?_
  subst he
  exact ChangeSpec.post_blind hp

/-- The cell of the library's own variable holds some number. -/
def Got (w : World) : Prop := ∃ m, w.cell? ⟨0, 0, none⟩ = some (.int .i64 m)
theorem got_of {W : World} (h : W.ShapedOpen Tryd.prog) : Got W :=
  cell_of_shapedOpen_int (zero := #[.int .i64 0]) (t := 3) h (of_decide_eq_true (by kernel_rfl)) (by kernel_rfl) rfl (by kernel_rfl) (by kernel_rfl) Tryd.underlying3

end Go.Proofs.YtpboaadjbkaidaaDoor

namespace Go.Proofs.YtpboaadjbkaidaaDoor
set_option maxRecDepth 100000
open Go.RowKit

def strC (s : ByteArray) : List Value := [.string s]
theorem strC_one (s : ByteArray) : ∀ u ∈ strC s, u.oneCell' = true := by
  intro u hu
  simp [strC] at hu
  subst hu
  rfl
theorem string_info : (Tryd.prog.info? 9).map (fun i => (i.zero, i.size, i.bytes)) = some (some (.string ByteArray.empty), 1, 16) := by kernel_rfl
theorem table_size : (Tryd.prog.info? 46).map (·.size) = some 3 := by kernel_rfl
theorem tbC_oneA (x : TbV) : (tbC x).toArray.all (·.oneCell') = true := by
  rw [Array.all_eq_true_iff_forall_mem]
  intro v hv
  exact tbC_one x v (List.mem_toArray.1 hv)
/-- The words of a line. -/
def wordsB (s : ByteArray) : List ByteArray := (wordsL s.data.toList).map ofL
theorem map_ofL (l : List ByteArray) : (l.map (·.data.toList)).map ofL = l := by
  rw [List.map_map]
  refine (List.map_congr_left fun x _ => ?_).trans (List.map_id l)
  exact ofL_of x
theorem pieces_words (s : ByteArray) : (Lib.splitB (⟨#[32]⟩ : ByteArray) 0 (Lib.countB s (⟨#[32]⟩ : ByteArray)) s).filter (fun x => x.data.toList ≠ []) = wordsB s := by
  have h1 := Lib.splitB_data (⟨#[32]⟩ : ByteArray) 0 (Lib.countB s (⟨#[32]⟩ : ByteArray)) s
  have h2 : Lib.countB s (⟨#[32]⟩ : ByteArray) = s.data.toList.count 32 := Lib.count_one 32 _
  have h3 := split_words (Lib.countB s (⟨#[32]⟩ : ByteArray)) s.data.toList h2.symm
  unfold wordsB
  rw [← h3]
  have h4 : ((⟨#[32]⟩ : ByteArray)).data.toList = [32] := rfl
  rw [h4] at h1
  rw [← h1, List.filter_map, map_ofL]
  rfl
def RetWords (w : World) (s : ByteArray) (e : Ending) (w' : World) : Prop := ∃ v, e = .returned v ∧ OwnE 9 strC 1 w' w.heap.size v (wordsB s) ∧ Below w.heap.size w w'
/-- The first table with a name. -/
def findF : List Tb → ByteArray → Nat → Int
  | [], _, _ => -1
  | t :: ts, nm, k => if (t.nm.toList == nm.toList) = true then (k : Int) else findF ts nm (k + 1)
def RetSide (w : World) (s : ByteArray) (e : Ending) (w' : World) : Prop := ∃ v x, e = .returned (.tuple #[v, .int .i64 x]) ∧ x = (sideF s.data.toList).2 ∧ OwnE 26 atC 34 w' w.heap.size v (sideF s.data.toList).1 ∧ Below w.heap.size w w'

set_option maxRecDepth 100000 in
set_option maxHeartbeats 4000000 in
theorem words_any (s : ByteArray) (w : World) (hs : s.size < 4294967281) (hg : Got w) : Calls Tryd.prog 53 #[.string s] w (RetWords w s) := by
  obtain ⟨R, HRR⟩ : ∃ R, Hid (R = RetWords w s) := ⟨_, rfl⟩
  rw [← HRR.out]
  obtain ⟨m, hm⟩ := hg
  have HSP := Lib.hid (Tryd.strings_Split s (⟨#[32]⟩ : ByteArray) m w hs hm (by decide))
  have hPn := Lib.splitB_all (⟨#[32]⟩ : ByteArray) (by decide) 0 (Lib.countB s (⟨#[32]⟩ : ByteArray)) s rfl
  have hPw : Hid ((Lib.splitB (⟨#[32]⟩ : ByteArray) 0 (Lib.countB s (⟨#[32]⟩ : ByteArray)) s).filter (fun x => x.data.toList ≠ []) = wordsB s) := pieces_words s
  have hcb : Lib.countB s (⟨#[32]⟩ : ByteArray) ≤ s.size := Lib.countB_le (⟨#[32]⟩ : ByteArray) (by decide) s.size s (Nat.le_refl _)
  generalize Lib.splitB (⟨#[32]⟩ : ByteArray) 0 (Lib.countB s (⟨#[32]⟩ : ByteArray)) s = P at HSP hPn hPw
  generalize Lib.countB s (⟨#[32]⟩ : ByteArray) = n at HSP hPn hcb
  obtain ⟨N, hN⟩ : ∃ N, N = n + 1 := ⟨_, rfl⟩
  rw [← hN] at HSP hPn
  have hcast : ((n + 1 : Nat) : Int) = (n : Int) + 1 := by omega
  go_enter Tryd.func53, Tryd.ntmps53
  go_upto_region 3 with (go_at_call 86; refine HSP.out.mono ?_; rintro e w' ⟨rfl, rfl⟩)
  have HP : Hid (∀ k p, P[k]? = some p → (w.alloc (.cells (P.map Value.string).toArray 9)).cell? ⟨w.heap.size, k, none⟩ = some (.string p)) := fun k p hk => by
    have := cells_new w (P.map Value.string) 9 k (.string p) (by rw [List.getElem?_map, hk]; rfl)
    rw [Addr.add_lit, Nat.zero_add] at this
    exact this
  have hz1 : (w.alloc (.cells (P.map Value.string).toArray 9)).heap.size = w.heap.size + 1 := by simp
  have HB1 := Lib.hid ((Below.refl w.heap.size w).alloc (Nat.le_refl _) (.cells (P.map Value.string).toArray 9))
  generalize w.alloc (.cells (P.map Value.string).toArray 9) = w1 at HP hz1 HB1 ⊢
  clear HSP
  go_wp2_with fail
  obtain ⟨wo, HWO⟩ : ∃ wo, Hid (wo = w1) := ⟨w1, rfl⟩
  go_loopg [3, 9] N (fun gk ov kv wr => ∃ (k : Nat) (q : List ByteArray) (A : Option Addr) (c : Nat), ov = .slice A q.length c ∧ kv = .int .i64 k ∧ k ≤ N ∧ Hid (q = (P.take k).filter (fun x => x.data.toList ≠ [])) ∧ Hid (OwnE 9 strC 1 wr w1.heap.size (.slice A q.length c) q) ∧ Hid (Below w1.heap.size w1 wr) ∧ q.length ≤ k ∧ N - k ≤ gk)
  case atStart => exact ⟨0, [], none, 0, rfl, rfl, by omega, rfl, OwnE.nil, Below.refl _ _, Nat.le_refl _, by omega⟩
  case round =>
    obtain ⟨k, q, A, c, rfl, rfl, hk, HQ, HO, HB, hqk, hgk⟩ := hrel
    by_cases hkl : k < N
    · have hki : (k : Int) < (N : Int) := by omega
      have hk0 : (0 : Int) ≤ (k : Int) := by omega
      have hPk : k < P.length := by omega
      have q0 := (HB.out.cell (p := ⟨w.heap.size, k, none⟩) (show w.heap.size < w1.heap.size by omega)).trans (HP.out k _ (List.getElem?_eq_getElem hPk))
      have HQ2 : Hid ((P.take (k + 1)).filter (fun x => x.data.toList ≠ []) = q ++ if P[k].data.toList ≠ [] then [P[k]] else []) := by
        show _ = _
        rw [List.take_succ_eq_append_getElem hPk, List.filter_append, ← HQ.out]
        congr 1
        by_cases h : P[k].data.toList ≠ []
        · rw [if_pos h, List.filter_cons_of_pos (by simpa using h)]; rfl
        · rw [if_neg h, List.filter_cons_of_neg (by simpa using h)]; rfl
      generalize P[k] = p at q0 HQ2
      have hsz := HB.out.size
      by_cases hp : p.data.toList = []
      · have t1 : (p.toList != []) = false := by rw [toList_eq_data, hp]; rfl
        have t2 : (p.toList == []) = true := by rw [toList_eq_data, hp]; rfl
        rw [if_neg (not_not_intro hp), List.append_nil] at HQ2
        clear hp
        go_wp2_with fail
        go_roundg (N - (k + 1))
        case measure => omega
        case rel => exact ⟨k + 1, q, A, c, rfl, by go_num, by omega, HQ2.out.symm, HO.out, HB.out, by omega, Nat.le_refl _⟩
      · have t1 : (p.toList != []) = true := by rw [toList_eq_data]; exact bne_iff_ne.2 hp
        have t2 : (p.toList == []) = false := by rw [toList_eq_data]; exact beq_eq_false_iff_ne.2 hp
        rw [if_pos hp] at HQ2
        clear hp
        go_wp2_with (at_builtin; go_must (refine wpList_app1 rfl (.tmp 15) (.tmp 17) 68 9 rfl Tryd.underlying68 _ 1 16 string_info rfl (by decide) w1.heap.size (.slice A q.length c) q.length (q.flatMap strC) rfl (own_below HO.out ((Below.refl _ wr).alloc (Nat.le_refl _) _) (Nat.le_refl _)) ⟨wr.heap.size, 0, none⟩ 1 (strC p) rfl rfl (cells_new wr (strC p) 9) (strC_one p) (by omega) (by decide) (by simp; omega) ?_); intro g2 cap w9 hown9 hbg9 hbel9 hgrow9)
        have hbn := hbel9 w1.heap.size (wr.alloc (.cells (strC p).toArray 9)) (Nat.le_refl _) (Below.refl _ _)
        have HB9 := Lib.hid ((HB.out.alloc hsz (.cells (strC p).toArray 9)).trans hbn)
        have HO9 : Hid (OwnE 9 strC 1 w9 w1.heap.size (.slice (some ⟨g2, 0, none⟩) (q.length + 1) cap) (q ++ [p])) := OwnE.snoc hown9
        clear hown9 hbel9 hgrow9 hbn
        go_wp2_with fail
        go_roundg (N - (k + 1))
        case measure => omega
        case rel => exact ⟨k + 1, q ++ [p], some ⟨g2, 0, none⟩, cap, by (show Value.slice _ _ _ = Value.slice _ _ _); rw [List.length_append]; rfl, by go_num, by omega, HQ2.out.symm, by (show OwnE _ _ _ _ _ _ _); rw [List.length_append]; exact HO9.out, HB9.out, by rw [List.length_append]; show q.length + 1 ≤ k + 1; omega, Nat.le_refl _⟩
    · obtain rfl : k = N := by omega
      have hki : ¬ (k : Int) < (k : Int) := by omega
      have e : q = wordsB s := by
        rw [HQ.out, ← hPw.out, List.take_of_length_le (by omega)]
      go_wp2_with fail
      rw [HRR.out]
      refine ⟨_, rfl, ?_, HB1.out.trans (HB.out.mono HB1.out.size)⟩
      have h := own_base HO.out HB1.out.size
      rw [e] at h
      exact h

set_option maxRecDepth 100000 in
set_option maxHeartbeats 4000000 in
theorem find_any (ts : List Tb) (v : Value) (nm : ByteArray) (w : World) (ht : RdTb w v ts) (hl : ts.length ≤ 1000000) :
    Calls Tryd.prog 74 #[v, .string nm] w fun e w' => e = .returned (.int .i64 (findF ts nm 0)) ∧ Below w.heap.size w w' := by
  obtain ⟨xs, hx0, hxl, hx⟩ := ht
  have hxa : xs.length ≤ ts.length := Nat.le_of_eq hxl
  have hxb : ts.length ≤ xs.length := Nat.le_of_eq hxl.symm
  clear hxl
  obtain ⟨A, c, rfl, hlc, _⟩ := hx0.shape
  have HX := Lib.hid hx0
  have HI : Hid (∀ (i : Nat) (x : TbV) (t : Tb), xs[i]? = some x → ts[i]? = some t → x.nm = t.nm) := fun i x t h1 h2 => (hx i x t h1 h2).1
  clear hx0 hx
  obtain ⟨V, HV⟩ : ∃ V, Hid (V = findF ts nm 0) := ⟨_, rfl⟩
  rw [← HV.out]
  have hu := Tryd.underlying46
  have hi : (Tryd.prog.info? 46).map (·.size) = some 3 := table_size
  go_enter Tryd.func74, Tryd.ntmps74
  go_wp2_with fail
  obtain ⟨wo, HWO⟩ : ∃ wo, Hid (wo = w) := ⟨w, rfl⟩
  go_loopg [9] xs.length (fun gk kv wr => ∃ k : Nat, kv = .int .i64 k ∧ k ≤ xs.length ∧ Hid (findF (ts.drop k) nm k = V) ∧ Hid (Below w.heap.size w wr) ∧ xs.length - k ≤ gk)
  case atStart => exact ⟨0, rfl, by omega, by (show _ = _); rw [List.drop_zero, HV.out], Below.refl _ _, by omega⟩
  case round =>
    obtain ⟨k, rfl, hk, HF, HB, hgk⟩ := hrel
    by_cases hkl : k < xs.length
    · have hki : (k : Int) < (xs.length : Int) := by omega
      have hk0 : (0 : Int) ≤ (k : Int) := by omega
      obtain ⟨b, o, rfl, hbl, hcell⟩ := HX.out.cells (by omega)
      have hxk : xs[k]? = some xs[k] := List.getElem?_eq_getElem hkl
      have htk : ts[k]? = some (ts[k]'(by omega)) := List.getElem?_eq_getElem (by omega)
      have hrg : wr.rangeAt b (o + k * 3) (tbC xs[k]) := fun j v hj => by
        rw [Nat.add_assoc]
        exact (HB.out.cell (p := ⟨b, o + (k * 3 + j), none⟩) hbl).trans (hcell k _ j v hxk hj)
      have hnm := HI.out k _ _ hxk htk
      have HF2 : Hid ((if (xs[k].nm.toList == nm.toList) = true then (k : Int) else findF (ts.drop (k + 1)) nm (k + 1)) = V) := by
        show _ = _
        have h := HF.out
        rw [List.drop_eq_getElem_cons (show k < ts.length by omega), findF] at h
        rw [hnm]
        exact h
      clear hcell hxk htk hnm HF
      generalize xs[k] = x at hrg HF2
      have hz := HB.out.size
      have HA1 : Hid ((((wr.alloc (.cells #[.string ⟨#[]⟩, .string ⟨#[]⟩, .slice none 0 0] 46)).setRow wr.heap.size (tbC x).toArray)).heap[wr.heap.size]? = some (.cells (tbC x).toArray 46)) := setRow_heap _ _ _ _ _ _ (heap_alloc_new wr _)
      have HB1 : Hid (Below w.heap.size w ((wr.alloc (.cells #[.string ⟨#[]⟩, .string ⟨#[]⟩, .slice none 0 0] 46)).setRow wr.heap.size (tbC x).toArray)) := below_setRow (HB.out.alloc hz _) hz _
      go_upto_region 4 with (first
        | (refine wpList_load_mid rfl 46 (.tmp 12) rfl b (o + k * 3) rfl (tbC x) _ hrg hu rfl (by rw [hi]; rfl) ?_)
        | (refine wpList_store_row rfl 46 (.tmp 6) (.tmp 13) rfl (wr.heap.size) (tbC x).toArray rfl rfl 46 _ (heap_alloc_new wr _) (by rw [table_size]; rfl) rfl (tbC_oneA x) ?_))
      clear HB hrg
      generalize hg3 : wr.heap.size = g3 at HA1 HB1 hz ⊢
      generalize (wr.alloc (.cells #[.string ⟨#[]⟩, .string ⟨#[]⟩, .slice none 0 0] 46)).setRow g3 (tbC x).toArray = w2 at HA1 HB1 ⊢
      clear hg3
      have q : w2.cell? ⟨g3, 0, none⟩ = some (.string x.nm) := by rw [cell_of_row _ _ _ _ _ _ HA1.out]; rfl
      by_cases hp : (x.nm.toList == nm.toList) = true
      · rw [if_pos hp] at HF2
        go_wp2_with fail
        go_ret
        exact ⟨ret_int HF2.out, HB1.out⟩
      · have hp2 : (x.nm.toList == nm.toList) = false := by simpa using hp
        rw [if_neg hp] at HF2
        clear hp
        go_wp2_with fail
        go_roundg (xs.length - (k + 1))
        case measure => omega
        case rel => exact ⟨k + 1, by go_num, by omega, HF2.out, HB1.out, Nat.le_refl _⟩
    · obtain rfl : k = xs.length := by omega
      have hki : ¬ (xs.length : Int) < (xs.length : Int) := by omega
      have HF2 : Hid (V = -1) := by
        show _ = _
        rw [← HF.out, List.drop_eq_nil_of_le (by omega)]
        rfl
      go_wp2_with fail
      go_ret
      exact ⟨ret_int HF2.out.symm, HB.out⟩

set_option maxRecDepth 100000 in
set_option maxHeartbeats 4000000 in
theorem side_any (s : ByteArray) (w : World) (hs : s.size ≤ 2147483648) : Calls Tryd.prog 102 #[.string s] w (RetSide w s) := by
  obtain ⟨R, HRR⟩ : ∃ R, Hid (R = RetSide w s) := ⟨_, rfl⟩
  rw [← HRR.out]
  have HPA := Lib.hid (parse_any w s hs)
  by_cases h : s.data.toList = [45]
  · have t1 : (s.toList == [45]) = true := by rw [toList_eq_data, h]; rfl
    have e : sideF s.data.toList = ([], 0) := by unfold sideF; rw [if_pos h]
    clear h
    go_enter Tryd.func102, Tryd.ntmps102
    go_wp2_with fail
    rw [HRR.out]
    exact ⟨_, _, rfl, by rw [e], by rw [e]; exact OwnE.nil, Below.refl _ _⟩
  · have t1 : (s.toList == [45]) = false := by rw [toList_eq_data]; exact beq_eq_false_iff_ne.2 h
    have e : sideF s.data.toList = ((parseF s).1, (parseF s).2.2) := by unfold sideF; rw [if_neg h, ofL_of]
    clear h
    go_enter Tryd.func102, Tryd.ntmps102
    go_wp2_with (go_at_call 113; refine HPA.out.mono ?_; rintro e w1 ⟨v1, rfl, ho1, hb1⟩)
    rw [HRR.out]
    exact ⟨v1, _, rfl, by rw [e], by rw [e]; exact ho1, hb1⟩

end Go.Proofs.YtpboaadjbkaidaaDoor

namespace Go.Proofs.YtpboaadjbkaidaaDoor
set_option maxRecDepth 100000
open Go.RowKit

theorem isname_any (s : ByteArray) (w : World) (hs : s.size ≤ maxLen) :
    Calls Tryd.prog 58 #[.string s] w fun e w' => e = .returned (.bool (nameL s.data.toList)) ∧ w = w' := by
  unfold maxLen at hs
  have hsz := Lib.size_eq s
  by_cases h1 : s.size < 1
  · have hn := nameL_short s.data.toList (by omega)
    have H := Lib.hid hn
    clear hn hsz
    go_enter Tryd.func58, Tryd.ntmps58
    go_wp2
    go_ret
    exact ⟨ret_bool H.out.symm, rfl⟩
  by_cases h2 : 24 < s.size
  · have hn := nameL_long s.data.toList (by omega)
    have H := Lib.hid hn
    clear hn hsz
    go_enter Tryd.func58, Tryd.ntmps58
    go_wp2
    go_ret
    exact ⟨ret_bool H.out.symm, rfl⟩
  have h0 : 0 < s.size := by omega
  have hg : s.data.toList[0] = s[0] := rfl
  by_cases h3 : headB s[0] = true
  · have hn := nameL_tail s.data.toList (by omega) (by omega) (by rw [hg]; exact h3)
    have H := Lib.hid hn
    have h3' : 97 ≤ s[0].toNat ∧ s[0].toNat ≤ 122 := by simpa [headB] using h3
    obtain ⟨h4, h5⟩ := h3'
    clear hn h3 hg
    have HZ := Lib.hid hsz
    clear hsz
    go_enter Tryd.func58, Tryd.ntmps58
    go_wp2
    go_loop [3] (fun i => ∃ k : Nat, 1 ≤ k ∧ k ≤ s.size ∧ i = .int .i64 k ∧ Hid (nameL s.data.toList = (s.data.toList.drop k).all restB)) (fun i => s.size - (intOf i).toNat)
    case atStart => exact ⟨1, by omega, by omega, rfl, H.out⟩
    case round =>
      obtain ⟨k, hk1, hk, rfl, HR⟩ := hrel
      by_cases hlt : k < s.size
      · have hl : k < s.data.toList.length := by rw [← Lib.size_eq]; exact hlt
        have hst := HR.out.trans (all_drop_step _ _ hl)
        have hgk : s.data.toList[k] = s[k] := rfl
        rw [hgk] at hst
        have HS := Lib.hid hst
        clear hst hgk HR H
        have h255 : s[k].toNat < 256 := s[k].toNat_lt
        go_wp2
        all_goals (try simp only [beq_iff_eq, beq_eq_false_iff_ne, bne_iff_ne, bne_eq_false_iff_eq, ne_eq, Bool.not_eq_true', Bool.not_eq_false', Bool.not_eq_eq_eq_not, Bool.not_true, Bool.not_false, decide_eq_true_eq, decide_eq_false_iff_not, Int.not_lt, Int.not_le] at *)
        all_goals first
          | (refine ⟨⟨k + 1, by omega, by omega, by go_num, ?_⟩, by simp [intOf]; try omega⟩
             have hr : restB s[k] = true := by simp only [restB, decide_eq_true_eq]; omega
             have := HS.out
             rw [hr, Bool.true_and] at this
             exact this)
          | (have hr : restB s[k] = false := by simp only [restB, decide_eq_false_iff_not]; omega
             have := HS.out
             rw [hr, Bool.false_and] at this
             go_ret
             exact ⟨ret_bool this.symm, rfl⟩)
      · have hl : ¬ k < s.data.toList.length := by rw [← Lib.size_eq]; exact hlt
        have hst := HR.out.trans (all_drop_end _ _ hl)
        have HS := Lib.hid hst
        clear hst HR H hl
        go_wp2
        go_ret
        exact ⟨ret_bool HS.out.symm, rfl⟩
  · have h3f : headB s[0] = false := by simpa using h3
    have hn := nameL_head s.data.toList (by omega) (by rw [hg]; exact h3f)
    have H := Lib.hid hn
    have h3' : ¬ (97 ≤ s[0].toNat ∧ s[0].toNat ≤ 122) := by simpa [headB] using h3
    clear hn h3 h3f hg hsz
    have h255 : s[0].toNat < 256 := s[0].toNat_lt
    by_cases h4 : s[0].toNat < 97
    · go_enter Tryd.func58, Tryd.ntmps58
      go_wp2
      go_ret
      exact ⟨ret_bool H.out.symm, rfl⟩
    · have h5 : 122 < s[0].toNat := by omega
      clear h3'
      go_enter Tryd.func58, Tryd.ntmps58
      go_wp2
      go_ret
      exact ⟨ret_bool H.out.symm, rfl⟩

end Go.Proofs.YtpboaadjbkaidaaDoor

namespace Go.Proofs.YtpboaadjbkaidaaDoor
set_option maxRecDepth 100000
open Go.RowKit

theorem table_info : (Tryd.prog.info? 46).map (fun i => (i.zero, i.size, i.bytes)) = some (some (.agg #[.string ⟨#[]⟩, .string ⟨#[]⟩, .slice none 0 0]), 3, 56) := by kernel_rfl
theorem rdE_one_at {α : Type} (f : α → List Value) (m : Nat) (_hm : ∀ x, (f x).length = m) (w : World) (g : Nat) (hg : w.heap.size = g) (x : α) (t : TypeId) : RdE f m (w.alloc (.cells (f x).toArray t)) (.slice (some ⟨g, 0, none⟩) 1 1) [x] := by
  subst hg
  refine ⟨some ⟨w.heap.size, 0, none⟩, 1, rfl, by simp, (fun h => by cases h), fun _ => ⟨w.heap.size, 0, rfl, by simp, fun i y j u hi hj => ?_⟩⟩
  have hi0 : i = 0 := by
    have := (List.getElem?_eq_some_iff.1 hi).1
    simpa using this
  subst hi0
  simp at hi
  subst hi
  have := cells_new w (f x) t j u hj
  rw [Addr.add_lit] at this
  simpa using this
theorem find_any_iff : ∀ (ts : List Tb) (b : ByteArray) (k : Nat), (0 ≤ findF ts b k) ↔ ts.any (fun t => t.nm.data.toList == b.data.toList) = true
  | [], _, _ => by simp [findF]
  | t :: ts, b, k => by
    rw [findF, List.any_cons, toList_eq_data, toList_eq_data]
    by_cases h : (t.nm.data.toList == b.data.toList) = true
    · rw [if_pos h, h]; simp
    · rw [if_neg h, find_any_iff ts b (k + 1)]
      simp at h
      simp [h]
theorem table2 (ts : List Tb) (a b : ByteArray) : tableF ts [a.data.toList, b.data.toList] = if nameL b.data.toList = false then ([], 4) else if ts.any (fun t => t.nm.data.toList == b.data.toList) = true then ([], 5) else if 16 ≤ ts.length then ([], 3) else (ts ++ [⟨b, ⟨#[]⟩, []⟩], 0) := by
  have e : ofL [] = ⟨#[]⟩ := rfl
  unfold tableF
  simp [ofL_of, e]
theorem table3 (ts : List Tb) (a b c : ByteArray) : tableF ts [a.data.toList, b.data.toList, c.data.toList] = if nameL b.data.toList = false ∨ nameL c.data.toList = false then ([], 4) else if ts.any (fun t => t.nm.data.toList == b.data.toList) = true then ([], 5) else if 16 ≤ ts.length then ([], 3) else (ts ++ [⟨b, c, []⟩], 0) := by
  unfold tableF
  simp [ofL_of]
/-- What a call gives that adds a line. -/
def RetTab (B : Nat) (w : World) (r : List Tb × Int) (e : Ending) (w' : World) : Prop := ∃ v x, e = .returned (.tuple #[v, .int .i64 x]) ∧ x = r.2 ∧ (r.2 = 0 → ∃ xs rv ys, TS 46 30 B w' v r.1 xs rv ys) ∧ Below B w w'

set_option maxRecDepth 100000 in
set_option maxHeartbeats 8000000 in
theorem addTable_any (B : Nat) (w : World) (v wv : Value) (ts : List Tb) (xs : List TbV) (rv : Sl) (ys : List RuV) (ws : List ByteArray) (ht : TS 46 30 B w v ts xs rv ys) (hw : RdE strC 1 w wv ws) (hB : B ≤ w.heap.size) (hl : ts.length ≤ 16) (hws : ∀ s ∈ ws, s.size ≤ 2147483648) :
    Calls Tryd.prog 87 #[v, wv] w (RetTab B w (tableF ts (ws.map fun s => s.data.toList))) := by
  obtain ⟨R, HRR⟩ : ∃ R, Hid (R = RetTab B w (tableF ts (ws.map fun s => s.data.toList))) := ⟨_, rfl⟩
  rw [← HRR.out]
  have HT := Lib.hid ht
  obtain ⟨Aw, cw, rfl, hlw, _⟩ := hw.shape
  obtain ⟨Av, cv, hv⟩ := ht.rd.shape
  by_cases h23 : ws.length ≠ 2 ∧ ws.length ≠ 3
  · have t1 : ((ws.length : Int) != 2) = true := bne_iff_ne.2 (by omega)
    have t2 : ((ws.length : Int) != 3) = true := bne_iff_ne.2 (by omega)
    have e0 : tableF ts (ws.map fun s => s.data.toList) = ([], 2) := by unfold tableF; rw [List.length_map, if_pos h23]
    go_enter Tryd.func87, Tryd.ntmps87
    go_wp2_with fail
    rw [HRR.out, e0]
    exact ⟨_, _, rfl, rfl, fun h => absurd h (by decide), Below.refl _ _⟩
  obtain ⟨bb, o, rfl, hbl, hcell⟩ := hw.cells (by omega)
  subst hv
  rcases (show ws.length = 2 ∨ ws.length = 3 by omega) with h2 | h3
  · obtain ⟨a, b, rfl⟩ : ∃ a b, ws = [a, b] := by
      match ws, h2 with
      | [a, b], _ => exact ⟨a, b, rfl⟩
    clear h2 h23
    change Hid (R = RetTab B w (tableF ts [a.data.toList, b.data.toList])) at HRR
    have q1 := hcell 1 b 0 (.string b) rfl rfl
    rw [show o + (1 * 1 + 0) = o + 1 by omega] at q1
    have hbs : b.size ≤ maxLen := by have := hws b (by simp); unfold maxLen; omega
    have HT1 := Lib.hid (HT.out.keep (w' := w.alloc (.cells #[.string b, .string ⟨#[]⟩, .slice none 0 0] 46)) (by simp) (fun k hk => Below.heap_alloc w _ k hk))
    have HX1 : Hid ((w.alloc (.cells #[.string b, .string ⟨#[]⟩, .slice none 0 0] 46)).heap[w.heap.size]? = some (.cells #[.string b, .string ⟨#[]⟩, .slice none 0 0] 46)) := heap_alloc_new w _
    have HB1 : Hid (Below B w (w.alloc (.cells #[.string b, .string ⟨#[]⟩, .slice none 0 0] 46))) := (Below.refl B w).alloc hB _
    have hz1 : (w.alloc (.cells #[.string b, .string ⟨#[]⟩, .slice none 0 0] 46)).heap.size = w.heap.size + 1 := by simp
    go_enter Tryd.func87, Tryd.ntmps87
    go_upto_region 6 with fail
    clear hcell q1
    generalize hg : w.heap.size = g at HX1 hz1 hB ⊢
    generalize w.alloc (.cells #[.string b, .string ⟨#[]⟩, .slice none 0 0] 46) = w1 at HT1 HX1 HB1 hz1 ⊢
    have p0 : w1.cell? ⟨g, 0, none⟩ = some (.string b) := by rw [cell_of_row _ _ _ _ _ _ HX1.out]; rfl
    have p1 : w1.cell? ⟨g, 1, none⟩ = some (.string ⟨#[]⟩) := by rw [cell_of_row _ _ _ _ _ _ HX1.out]; rfl
    cases hb1 : nameL b.data.toList with
    | false =>
      have e0 : tableF ts [a.data.toList, b.data.toList] = ([], 4) := by rw [table2]; rw [if_pos hb1]
      have HN1 := Lib.hid (fun w => isname_any b w hbs)
      rw [hb1] at HN1
      go_wp2_with (go_at_call_of 58 (Value.string b); refine (HN1.out _).mono ?_; rintro e w' ⟨rfl, rfl⟩)
      rw [HRR.out, e0]
      exact ⟨_, _, rfl, rfl, fun h => absurd h (by decide), HB1.out⟩
    | true =>
      have HN1 := Lib.hid (fun w => isname_any b w hbs)
      rw [hb1] at HN1
      have HRD := Lib.hid HT1.out.rd
      have HFI := Lib.hid (find_any ts _ b w1 HRD.out (by omega))
      have HFA := Lib.hid (find_any_iff ts b 0)
      go_upto_region 8 with (first | (go_at_call_of 58 (Value.string b); refine (HN1.out _).mono ?_; rintro e w' ⟨rfl, rfl⟩))
      generalize findF ts b 0 = fi at HFI HFA
      by_cases hf : 0 ≤ fi
      · have e0 : tableF ts [a.data.toList, b.data.toList] = ([], 5) := by rw [table2]; rw [if_neg (fun h => Bool.noConfusion (hb1.symm.trans h))]; rw [if_pos (HFA.out.1 hf)]
        go_wp2_with (go_at_call 74; refine HFI.out.mono ?_; rintro e w2 ⟨rfl, hb2⟩)
        rw [HRR.out, e0]
        exact ⟨_, _, rfl, rfl, fun h => absurd h (by decide), HB1.out.trans (hb2.mono (by omega))⟩
      have hfl : fi < 0 := by omega
      have hfn : ¬ ts.any (fun t => t.nm.data.toList == b.data.toList) = true := fun h => hf (HFA.out.2 h)
      by_cases h16 : 16 ≤ ts.length
      · have h16i : (16 : Int) ≤ (ts.length : Int) := by omega
        have e0 : tableF ts [a.data.toList, b.data.toList] = ([], 3) := by rw [table2]; rw [if_neg (fun h => Bool.noConfusion (hb1.symm.trans h))]; rw [if_neg hfn, if_pos h16]
        go_wp2_with (go_at_call 74; refine HFI.out.mono ?_; rintro e w2 ⟨rfl, hb2⟩)
        rw [HRR.out, e0]
        exact ⟨_, _, rfl, rfl, fun h => absurd h (by decide), HB1.out.trans (hb2.mono (by omega))⟩
      have h16i : ¬ (16 : Int) ≤ (ts.length : Int) := by omega
      have e0 : tableF ts [a.data.toList, b.data.toList] = (ts ++ [⟨b, ⟨#[]⟩, []⟩], 0) := by rw [table2]; rw [if_neg (fun h => Bool.noConfusion (hb1.symm.trans h))]; rw [if_neg hfn, if_neg h16]
      have hxl : xs.length ≤ ts.length := Nat.le_of_eq HT1.out.len
      go_upto_region 12 with (go_at_call 74; refine HFI.out.mono ?_; rintro e w2 ⟨rfl, hb2⟩)
      have HT2 := Lib.hid (HT1.out.below hb2 (Nat.le_refl _))
      have HB2 := Lib.hid (HB1.out.trans (hb2.mono (by omega)))
      have HX2 : Hid (w2.heap[g]? = some (.cells #[.string b, .string ⟨#[]⟩, .slice none 0 0] 46)) := by show _ = _; rw [hb2.block g (by omega)]; exact HX1.out
      clear hb2 HT1 HB1 HX1 p0 p1 HFI HRD
      have hz2 := HB2.out.size
      have HT3 := Lib.hid (HT2.out.keep (w' := w2.alloc (.cells #[.string b, .string ⟨#[]⟩, .slice none 0 0] 46)) (by simp) (fun k hk => Below.heap_alloc w2 _ k hk))
      have hgz : w.heap.size ≤ w2.heap.size := hz2
      have HOW : Hid ((w2.alloc (.cells #[.string b, .string ⟨#[]⟩, .slice none 0 0] 46)).ownsRow B 46 3 (.slice Av ts.length cv) xs.length (xs.flatMap tbC)) := HT3.out.own
      clear HFA hfn
      go_wp2_with (first
        | (refine wpList_load_row rfl 46 (.tmp 6) rfl (g) rfl 46 #[.string b, .string ⟨#[]⟩, .slice none 0 0] (0, 0) _ HX2.out Tryd.underlying46 rfl (by rw [table_size]; rfl) ?_)
        | (at_builtin; refine wpList_appAt rfl (.tmp 52) (.tmp 54) 39 46 rfl Tryd.underlying39 _ tbC 3 56 table_info rfl (by decide) tbC_len tbC_one B (.slice Av ts.length cv) xs rfl HOW.out (.slice (some ⟨w2.heap.size, 0, none⟩) 1 1) [⟨b, ⟨#[]⟩, ⟨none, 0, 0⟩⟩] rfl (rdE_one_at tbC 3 tbC_len w2 _ rfl ⟨b, ⟨#[]⟩, ⟨none, 0, 0⟩⟩ 46) (by simp only [List.length_singleton]; omega) (by decide) (by simp; omega) ?_; intro v9 w9 hown9 hbel9 hgrow9 hat9))
      rw [HRR.out, e0]
      exact ⟨_, _, rfl, rfl, fun _ => ⟨_, _, _, HT3.out.push b ⟨#[]⟩ hown9 hgrow9 hat9⟩, hbel9 B w (Nat.le_refl _) (HB2.out.alloc (by omega) _)⟩
  · obtain ⟨a, b, c, rfl⟩ : ∃ a b c, ws = [a, b, c] := by
      match ws, h3 with
      | [a, b, c], _ => exact ⟨a, b, c, rfl⟩
    clear h3 h23
    change Hid (R = RetTab B w (tableF ts [a.data.toList, b.data.toList, c.data.toList])) at HRR
    have q1 := hcell 1 b 0 (.string b) rfl rfl
    rw [show o + (1 * 1 + 0) = o + 1 by omega] at q1
    have q2 := hcell 2 c 0 (.string c) rfl rfl
    rw [show o + (2 * 1 + 0) = o + 2 by omega] at q2
    have hcs : c.size ≤ maxLen := by have := hws c (by simp); unfold maxLen; omega
    have hbw : ∀ ob : Obj, bb < (w.alloc ob).heap.size := fun ob => by simp; omega
    have hbw2 := hbw (.cells #[.string b, .string ⟨#[]⟩, .slice none 0 0] 46)
    have hbs : b.size ≤ maxLen := by have := hws b (by simp); unfold maxLen; omega
    have HT1 := Lib.hid (HT.out.keep (w' := w.alloc (.cells #[.string b, .string c, .slice none 0 0] 46)) (by simp) (fun k hk => Below.heap_alloc w _ k hk))
    have HX1 : Hid ((w.alloc (.cells #[.string b, .string c, .slice none 0 0] 46)).heap[w.heap.size]? = some (.cells #[.string b, .string c, .slice none 0 0] 46)) := heap_alloc_new w _
    have HB1 : Hid (Below B w (w.alloc (.cells #[.string b, .string c, .slice none 0 0] 46))) := (Below.refl B w).alloc hB _
    have hz1 : (w.alloc (.cells #[.string b, .string c, .slice none 0 0] 46)).heap.size = w.heap.size + 1 := by simp
    go_enter Tryd.func87, Tryd.ntmps87
    go_upto_region 6 with fail
    clear hcell q1 q2 hbw2 hbw
    generalize hg : w.heap.size = g at HX1 hz1 hB ⊢
    generalize w.alloc (.cells #[.string b, .string c, .slice none 0 0] 46) = w1 at HT1 HX1 HB1 hz1 ⊢
    have p0 : w1.cell? ⟨g, 0, none⟩ = some (.string b) := by rw [cell_of_row _ _ _ _ _ _ HX1.out]; rfl
    have p1 : w1.cell? ⟨g, 1, none⟩ = some (.string c) := by rw [cell_of_row _ _ _ _ _ _ HX1.out]; rfl
    cases hb1 : nameL b.data.toList with
    | false =>
      have e0 : tableF ts [a.data.toList, b.data.toList, c.data.toList] = ([], 4) := by rw [table3]; rw [if_pos (.inl hb1)]
      have HN1 := Lib.hid (fun w => isname_any b w hbs)
      rw [hb1] at HN1
      go_wp2_with (go_at_call_of 58 (Value.string b); refine (HN1.out _).mono ?_; rintro e w' ⟨rfl, rfl⟩)
      rw [HRR.out, e0]
      exact ⟨_, _, rfl, rfl, fun h => absurd h (by decide), HB1.out⟩
    | true =>
      have HN1 := Lib.hid (fun w => isname_any b w hbs)
      rw [hb1] at HN1
      cases hc1 : nameL c.data.toList with
      | false =>
        have e0 : tableF ts [a.data.toList, b.data.toList, c.data.toList] = ([], 4) := by rw [table3]; rw [if_pos (.inr hc1)]
        have HN2 := Lib.hid (fun w => isname_any c w hcs)
        rw [hc1] at HN2
        go_wp2_with (first | (go_at_call_of 58 (Value.string b); refine (HN1.out _).mono ?_; rintro e w' ⟨rfl, rfl⟩) | (go_at_call_of 58 (Value.string c); refine (HN2.out _).mono ?_; rintro e w' ⟨rfl, rfl⟩))
        rw [HRR.out, e0]
        exact ⟨_, _, rfl, rfl, fun h => absurd h (by decide), HB1.out⟩
      | true =>
        have HN2 := Lib.hid (fun w => isname_any c w hcs)
        rw [hc1] at HN2
        have HRD := Lib.hid HT1.out.rd
        have HFI := Lib.hid (find_any ts _ b w1 HRD.out (by omega))
        have HFA := Lib.hid (find_any_iff ts b 0)
        go_upto_region 8 with (first | (go_at_call_of 58 (Value.string b); refine (HN1.out _).mono ?_; rintro e w' ⟨rfl, rfl⟩) | (go_at_call_of 58 (Value.string c); refine (HN2.out _).mono ?_; rintro e w' ⟨rfl, rfl⟩))
        generalize findF ts b 0 = fi at HFI HFA
        by_cases hf : 0 ≤ fi
        · have e0 : tableF ts [a.data.toList, b.data.toList, c.data.toList] = ([], 5) := by rw [table3]; rw [if_neg (by rintro (h | h); exact Bool.noConfusion (hb1.symm.trans h); exact Bool.noConfusion (hc1.symm.trans h))]; rw [if_pos (HFA.out.1 hf)]
          go_wp2_with (go_at_call 74; refine HFI.out.mono ?_; rintro e w2 ⟨rfl, hb2⟩)
          rw [HRR.out, e0]
          exact ⟨_, _, rfl, rfl, fun h => absurd h (by decide), HB1.out.trans (hb2.mono (by omega))⟩
        have hfl : fi < 0 := by omega
        have hfn : ¬ ts.any (fun t => t.nm.data.toList == b.data.toList) = true := fun h => hf (HFA.out.2 h)
        by_cases h16 : 16 ≤ ts.length
        · have h16i : (16 : Int) ≤ (ts.length : Int) := by omega
          have e0 : tableF ts [a.data.toList, b.data.toList, c.data.toList] = ([], 3) := by rw [table3]; rw [if_neg (by rintro (h | h); exact Bool.noConfusion (hb1.symm.trans h); exact Bool.noConfusion (hc1.symm.trans h))]; rw [if_neg hfn, if_pos h16]
          go_wp2_with (go_at_call 74; refine HFI.out.mono ?_; rintro e w2 ⟨rfl, hb2⟩)
          rw [HRR.out, e0]
          exact ⟨_, _, rfl, rfl, fun h => absurd h (by decide), HB1.out.trans (hb2.mono (by omega))⟩
        have h16i : ¬ (16 : Int) ≤ (ts.length : Int) := by omega
        have e0 : tableF ts [a.data.toList, b.data.toList, c.data.toList] = (ts ++ [⟨b, c, []⟩], 0) := by rw [table3]; rw [if_neg (by rintro (h | h); exact Bool.noConfusion (hb1.symm.trans h); exact Bool.noConfusion (hc1.symm.trans h))]; rw [if_neg hfn, if_neg h16]
        have hxl : xs.length ≤ ts.length := Nat.le_of_eq HT1.out.len
        go_upto_region 12 with (go_at_call 74; refine HFI.out.mono ?_; rintro e w2 ⟨rfl, hb2⟩)
        have HT2 := Lib.hid (HT1.out.below hb2 (Nat.le_refl _))
        have HB2 := Lib.hid (HB1.out.trans (hb2.mono (by omega)))
        have HX2 : Hid (w2.heap[g]? = some (.cells #[.string b, .string c, .slice none 0 0] 46)) := by show _ = _; rw [hb2.block g (by omega)]; exact HX1.out
        clear hb2 HT1 HB1 HX1 p0 p1 HFI HRD
        have hz2 := HB2.out.size
        have HT3 := Lib.hid (HT2.out.keep (w' := w2.alloc (.cells #[.string b, .string c, .slice none 0 0] 46)) (by simp) (fun k hk => Below.heap_alloc w2 _ k hk))
        have hgz : w.heap.size ≤ w2.heap.size := hz2
        have HOW : Hid ((w2.alloc (.cells #[.string b, .string c, .slice none 0 0] 46)).ownsRow B 46 3 (.slice Av ts.length cv) xs.length (xs.flatMap tbC)) := HT3.out.own
        clear HFA hfn
        go_wp2_with (first
          | (refine wpList_load_row rfl 46 (.tmp 6) rfl (g) rfl 46 #[.string b, .string c, .slice none 0 0] (0, 0) _ HX2.out Tryd.underlying46 rfl (by rw [table_size]; rfl) ?_)
          | (at_builtin; refine wpList_appAt rfl (.tmp 52) (.tmp 54) 39 46 rfl Tryd.underlying39 _ tbC 3 56 table_info rfl (by decide) tbC_len tbC_one B (.slice Av ts.length cv) xs rfl HOW.out (.slice (some ⟨w2.heap.size, 0, none⟩) 1 1) [⟨b, c, ⟨none, 0, 0⟩⟩] rfl (rdE_one_at tbC 3 tbC_len w2 _ rfl ⟨b, c, ⟨none, 0, 0⟩⟩ 46) (by simp only [List.length_singleton]; omega) (by decide) (by simp; omega) ?_; intro v9 w9 hown9 hbel9 hgrow9 hat9))
        rw [HRR.out, e0]
        exact ⟨_, _, rfl, rfl, fun _ => ⟨_, _, _, HT3.out.push b c hown9 hgrow9 hat9⟩, hbel9 B w (Nat.le_refl _) (HB2.out.alloc (by omega) _)⟩

end Go.Proofs.YtpboaadjbkaidaaDoor

namespace Go.Proofs.YtpboaadjbkaidaaDoor
set_option maxRecDepth 100000
open Go.RowKit

theorem rule_info : (Tryd.prog.info? 30).map (fun i => (i.zero, i.size, i.bytes)) = some (some (.agg #[.bool false, .slice none 0 0, .slice none 0 0]), 3, 56) := by kernel_rfl
theorem box3 {w : World} {b : Nat} {v0 v1 v2 : Value} {t : TypeId} (h : w.heap[b]? = some (.cells #[v0, v1, v2] t)) :
    w.cell? ⟨b, 0, none⟩ = some v0 ∧ w.cell? ⟨b, 1, none⟩ = some v1 ∧ w.cell? ⟨b, 2, none⟩ = some v2 ∧ w.frozen? ⟨b, 0, none⟩ = false ∧ w.frozen? ⟨b, 1, none⟩ = false ∧ w.frozen? ⟨b, 2, none⟩ = false :=
  ⟨by rw [cell_of_row _ _ 0 _ _ _ h]; rfl, by rw [cell_of_row _ _ 1 _ _ _ h]; rfl, by rw [cell_of_row _ _ 2 _ _ _ h]; rfl, frozen_of_row w b 0 _ _ h, frozen_of_row w b 1 _ _ h, frozen_of_row w b 2 _ _ h⟩
theorem set_row1 {w : World} {b : Nat} {cs : Array Value} {t : TypeId} (h : w.heap[b]? = some (.cells cs t)) (j : Nat) (u : Value) : (w.setCell ⟨b, j, none⟩ u).heap[b]? = some (.cells (cs.setIfInBounds j u) t) :=
  heap_setCell_same w b j _ _ _ h
theorem rule3 (ts : List Tb) (a b c : ByteArray) (h : ts ≠ []) : ruleF ts [a.data.toList, b.data.toList, c.data.toList] = if (sideF b.data.toList).2 ≠ 0 then ([], (sideF b.data.toList).2) else if (sideF c.data.toList).2 ≠ 0 then ([], (sideF c.data.toList).2) else if 32 ≤ ((ts.getLast?.map (·.rs)).getD []).length then ([], 3) else (addLast ts ⟨a.data.toList == wBreak, (sideF b.data.toList).1, (sideF c.data.toList).1⟩, 0) := by
  unfold ruleF
  rw [if_neg (by simp), if_neg h]
  rfl

set_option maxRecDepth 100000 in
set_option maxHeartbeats 8000000 in
theorem addRule_any (B : Nat) (w : World) (v wv : Value) (ts : List Tb) (xs : List TbV) (rv : Sl) (ys : List RuV) (ws : List ByteArray) (ht : TS 46 30 B w v ts xs rv ys) (hw : RdE strC 1 w wv ws) (hB : B ≤ w.heap.size) (hl : ts.length ≤ 16) (hws : ∀ s ∈ ws, s.size ≤ 2147483648) :
    Calls Tryd.prog 88 #[v, wv] w (RetTab B w (ruleF ts (ws.map fun s => s.data.toList))) := by
  obtain ⟨R, HRR⟩ : ∃ R, Hid (R = RetTab B w (ruleF ts (ws.map fun s => s.data.toList))) := ⟨_, rfl⟩
  rw [← HRR.out]
  have HT := Lib.hid ht
  obtain ⟨Aw, cw, rfl, hlw, _⟩ := hw.shape
  obtain ⟨Av, cv, hv⟩ := ht.rd.shape
  by_cases h3 : ws.length ≠ 3
  · have t2 : ((ws.length : Int) != 3) = true := bne_iff_ne.2 (by omega)
    have e0 : ruleF ts (ws.map fun s => s.data.toList) = ([], 2) := by unfold ruleF; rw [List.length_map, if_pos h3]
    subst hv
    go_enter Tryd.func88, Tryd.ntmps88
    go_wp2_with fail
    rw [HRR.out, e0]
    exact ⟨_, _, rfl, rfl, fun h => absurd h (by decide), Below.refl _ _⟩
  obtain ⟨bb, o, rfl, hbl, hcell⟩ := hw.cells (by omega)
  obtain ⟨a, b, c, rfl⟩ : ∃ a b c, ws = [a, b, c] := by
    match ws, (show ws.length = 3 by omega) with
    | [a, b, c], _ => exact ⟨a, b, c, rfl⟩
  clear h3
  change Hid (R = RetTab B w (ruleF ts [a.data.toList, b.data.toList, c.data.toList])) at HRR
  by_cases h0 : ts.length = 0
  · obtain rfl : ts = [] := List.eq_nil_of_length_eq_zero h0
    have e0 : ruleF [] [a.data.toList, b.data.toList, c.data.toList] = ([], 8) := rfl
    subst hv
    go_enter Tryd.func88, Tryd.ntmps88
    go_wp2_with fail
    rw [HRR.out, e0]
    exact ⟨_, _, rfl, rfl, fun h => absurd h (by decide), Below.refl _ _⟩
  obtain ⟨n, hn⟩ : ∃ n, ts.length = n + 1 := ⟨ts.length - 1, by omega⟩
  obtain ⟨gT, cT, hvT, hBT⟩ := own_some ht.own (by rw [ht.len]; omega)
  rw [ht.len, hn] at hvT
  rw [hv] at hvT
  have q0 := hcell 0 a 0 (.string a) rfl rfl
  rw [show o + (0 * 1 + 0) = o by omega] at q0
  have q1 := hcell 1 b 0 (.string b) rfl rfl
  rw [show o + (1 * 1 + 0) = o + 1 by omega] at q1
  have q2 := hcell 2 c 0 (.string c) rfl rfl
  rw [show o + (2 * 1 + 0) = o + 2 by omega] at q2
  clear hcell
  obtain ⟨bk, hbk⟩ : ∃ bk, (a.toList == [98, 114, 101, 97, 107]) = bk := ⟨_, rfl⟩
  have hbk2 : Hid (bk = (a.data.toList == wBreak)) := by show _ = _; rw [← hbk, toList_eq_data]; rfl
  have HS1 := Lib.hid (fun w => side_any b w (hws b (by simp)))
  have HS2 := Lib.hid (fun w => side_any c w (hws c (by simp)))
  have HE : Hid (ruleF ts [a.data.toList, b.data.toList, c.data.toList] = if (sideF b.data.toList).2 ≠ 0 then ([], (sideF b.data.toList).2) else if (sideF c.data.toList).2 ≠ 0 then ([], (sideF c.data.toList).2) else if 32 ≤ ((ts.getLast?.map (·.rs)).getD []).length then ([], 3) else (addLast ts ⟨bk, (sideF b.data.toList).1, (sideF c.data.toList).1⟩, 0)) := by
    show _ = _
    rw [hbk2.out]
    exact rule3 ts a b c (fun e => h0 (by rw [e]; rfl))
  generalize ruleF ts [a.data.toList, b.data.toList, c.data.toList] = rr at HE HRR
  generalize hs1 : sideF b.data.toList = s1 at HE
  generalize hs2 : sideF c.data.toList = s2 at HE
  obtain ⟨p1, x1⟩ := s1
  obtain ⟨p2, x2⟩ := s2
  unfold RetSide at HS1 HS2
  rw [hs1] at HS1
  rw [hs2] at HS2
  simp only at HS1 HS2 HE
  clear hs1 hs2 hbk2
  rw [hn] at hv
  have hAT : Av = some ⟨gT, 0, none⟩ ∧ cv = cT := by injection hvT with e1 _ e2; exact ⟨e1, e2⟩
  obtain ⟨rfl, rfl⟩ := hAT
  clear hvT
  obtain ⟨w1, hw1⟩ : ∃ w1, w1 = w.alloc (.cells #[.bool bk, (.slice none 0 0), (.slice none 0 0)] 30) := ⟨_, rfl⟩
  have hgT : gT < w.heap.size := (ht.own.lt gT (by rw [hv]; rfl)).2
  subst hv
  go_enter Tryd.func88, Tryd.ntmps88
  have hb1 : bb < (w.alloc (.cells #[.bool bk, (.slice none 0 0), (.slice none 0 0)] 30)).heap.size := by simp; omega
  go_upto_region 7 with fail
  rw [← hw1]
  have hz1 : w1.heap.size = w.heap.size + 1 := by rw [hw1]; simp
  have HX1 : Hid (w1.heap[w.heap.size]? = some (.cells #[.bool bk, (.slice none 0 0), (.slice none 0 0)] 30)) := by show _ = _; rw [hw1]; exact heap_alloc_new w _
  have HB1 : Hid (Below w.heap.size w w1) := by show Below _ _ _; rw [hw1]; exact (Below.refl _ w).alloc (Nat.le_refl _) _
  have r1 : w1.cell? ⟨bb, o + 1, none⟩ = some (.string b) := (HB1.out.cell (p := ⟨bb, o + 1, none⟩) hbl).trans q1
  clear hw1 q0 q1 hb1 hbk
  generalize hg : w.heap.size = g at hz1 HX1 ⊢
  go_wp2_with fail
  refine (HS1.out _).mono ?_
  rintro e w2 ⟨v1, y1, rfl, hy1, ho1, hb2⟩
  subst hy1
  obtain ⟨A1, c1, hv1⟩ := own_shape ho1
  subst hv1
  have HX2 : Hid (w2.heap[g]? = some (.cells #[.bool bk, (.slice none 0 0), (.slice none 0 0)] 30)) := by (show _ = _; rw [hb2.block g (by omega)]; exact HX1.out)
  obtain ⟨z0, z1, z2, y0, y3, y2⟩ := box3 HX2.out
  go_upto_region 8 with fail
  have hz2 := hb2.size
  have HX3 : Hid ((w2.setCell ⟨g, 1, none⟩ (.slice A1 p1.length c1)).heap[g]? = some (.cells #[.bool bk, (.slice A1 p1.length c1), (.slice none 0 0)] 30)) := set_row1 HX2.out 1 _
  have HO3 : Hid (OwnE 26 atC 34 (w2.setCell ⟨g, 1, none⟩ (.slice A1 p1.length c1)) w1.heap.size (.slice A1 p1.length c1) p1) := own_setAt (g := g) ho1 (fun k hk e => by have := (World.ownsRow.lt ho1 k hk).1; omega) _ _
  have HB3 : Hid (Below w.heap.size w (w2.setCell ⟨g, 1, none⟩ (.slice A1 p1.length c1))) := (HB1.out.trans (hb2.mono (by omega))).setCell (p := ⟨g, 1, none⟩) (show w.heap.size ≤ g by omega) _
  have hz3 : w1.heap.size ≤ (w2.setCell ⟨g, 1, none⟩ (.slice A1 p1.length c1)).heap.size := by simpa [World.setCell] using hz2
  clear HX2 ho1 hb2 z0 z1 z2 y0 y2 y3 r1 hz2
  generalize w2.setCell ⟨g, 1, none⟩ (.slice A1 p1.length c1) = w3 at HX3 HO3 HB3 hz3 ⊢
  have r2 : w3.cell? ⟨bb, o + 2, none⟩ = some (.string c) := (HB3.out.cell (p := ⟨bb, o + 2, none⟩) hbl).trans q2
  clear q2
  by_cases hx1 : y1 ≠ 0
  · have t1 : (y1 != 0) = true := bne_iff_ne.2 hx1
    go_wp2_with fail
    rw [HRR.out, HE.out, if_pos hx1]
    exact ⟨_, _, rfl, rfl, fun h => absurd h hx1, HB3.out.mono hB⟩
  have t1 : (y1 != 0) = false := by simpa using hx1
  go_wp2_with fail
  refine (HS2.out _).mono ?_
  rintro e w4 ⟨v2, y2, rfl, hy2, ho2, hb4⟩
  subst hy2
  obtain ⟨A2, c2, hv2⟩ := own_shape ho2
  subst hv2
  have HX4 : Hid (w4.heap[g]? = some (.cells #[.bool bk, (.slice A1 p1.length c1), (.slice none 0 0)] 30)) := by (show _ = _; rw [hb4.block g (by omega)]; exact HX3.out)
  obtain ⟨z0, z1, z2, y0, y3, y4⟩ := box3 HX4.out
  go_upto_region 11 with fail
  have hz4 := hb4.size
  have HX5 : Hid ((w4.setCell ⟨g, 2, none⟩ (.slice A2 p2.length c2)).heap[g]? = some (.cells #[.bool bk, (.slice A1 p1.length c1), (.slice A2 p2.length c2)] 30)) := set_row1 HX4.out 2 _
  have HO5 : Hid (OwnE 26 atC 34 (w4.setCell ⟨g, 2, none⟩ (.slice A2 p2.length c2)) w1.heap.size (.slice A1 p1.length c1) p1) := own_setAt (g := g) (own_below HO3.out hb4 (Nat.le_refl _)) (fun k hk e => by have := (World.ownsRow.lt HO3.out k hk).1; omega) _ _
  have HP5 : Hid (OwnE 26 atC 34 (w4.setCell ⟨g, 2, none⟩ (.slice A2 p2.length c2)) w3.heap.size (.slice A2 p2.length c2) p2) := own_setAt (g := g) ho2 (fun k hk e => by have := (World.ownsRow.lt ho2 k hk).1; omega) _ _
  have HB5 : Hid (Below w.heap.size w (w4.setCell ⟨g, 2, none⟩ (.slice A2 p2.length c2))) := (HB3.out.trans (hb4.mono (by omega))).setCell (p := ⟨g, 2, none⟩) (show w.heap.size ≤ g by omega) _
  clear HX4 ho2 hb4 z0 z1 z2 y0 y3 y4 r2 HX3 HO3 HB3
  generalize w4.setCell ⟨g, 2, none⟩ (.slice A2 p2.length c2) = w5 at HX5 HO5 HP5 HB5 ⊢
  by_cases hx2 : y2 ≠ 0
  · have t2 : (y2 != 0) = true := bne_iff_ne.2 hx2
    go_wp2_with fail
    rw [HRR.out, HE.out, if_neg hx1, if_pos hx2]
    exact ⟨_, _, rfl, rfl, fun h => absurd h hx2, HB5.out.mono hB⟩
  have t2 : (y2 != 0) = false := by simpa using hx2
  obtain ⟨z0, z1, z2, _, _, _⟩ := box3 HX5.out
  have HT5 := Lib.hid (HT.out.below HB5.out (Nat.le_refl _))
  obtain ⟨rA, rn, rc⟩ := rv
  obtain ⟨Ar, cr, hr⟩ := own_shape HT5.out.rown
  have hrn : rn = ys.length := by unfold Sl.v at hr; injection hr
  subst hrn
  have hxn : n < xs.length := by have := HT.out.len; omega
  have htn : n < ts.length := by omega
  have hxg : xs[n]? = some xs[n] := List.getElem?_eq_getElem hxn
  have htg : ts[n]? = some ts[n] := List.getElem?_eq_getElem htn
  obtain ⟨hxr, hyl, _⟩ := HT5.out.last n _ _ hxg htg (by omega)
  have hlast : ((ts.getLast?.map (·.rs)).getD []).length = ys.length := by
    rw [List.getLast?_eq_getElem?, hn, show n + 1 - 1 = n by omega, htg, hyl]
    rfl
  rw [hlast, if_neg hx1, if_neg hx2] at HE
  clear hyl hlast
  have HQ : Hid (w5.cell? ⟨gT, n * 3 + 2, none⟩ = some (.slice rA ys.length rc)) := by
    show _ = _
    have h := HT5.out.own
    unfold OwnE at h
    have hxl : xs.length = n + 1 := by rw [HT.out.len, hn]
    rw [hxl] at h
    rw [h.cellAt (n * 3 + 2) (by omega), flat_get tbC 3 tbC_len xs n 2 _ hxg (by omega)]
    show some xs[n].r.v = _
    rw [hxr]
    rfl
  have HF : Hid (w5.frozen? ⟨gT, n * 3 + 2, none⟩ = false) := by
    have h := HT5.out.own
    unfold OwnE at h
    have hxl : xs.length = n + 1 := by rw [HT.out.len, hn]
    rw [hxl] at h
    exact h.frozenAt (n * 3 + 2)
  have qT := HQ.out
  have hT5 : gT < w5.heap.size := Nat.lt_of_lt_of_le hgT HB5.out.size
  have hn0 : (0 : Int) ≤ (n : Int) := by omega
  by_cases h32 : 32 ≤ ys.length
  · have h32i : (32 : Int) ≤ (ys.length : Int) := by omega
    go_wp2_with fail
    rw [HRR.out, HE.out, if_pos h32]
    exact ⟨_, _, rfl, rfl, fun h => absurd h (by decide), HB5.out.mono hB⟩
  have h32i : ¬ (32 : Int) ≤ (ys.length : Int) := by omega
  rw [if_neg h32] at HE
  have hTR : (Value.slice rA ys.length rc).ownBlock ≠ some gT := HT.out.apart gT rfl
  have HT6 := Lib.hid (HT5.out.keep (w' := w5.drew.alloc (.cells (ruC ⟨bk, ⟨A1, p1.length, c1⟩, ⟨A2, p2.length, c2⟩⟩).toArray 30)) (by simp) (fun k hk => Below.heap_alloc w5 _ k hk))
  have HOR : Hid ((w5.drew.alloc (.cells (ruC ⟨bk, ⟨A1, p1.length, c1⟩, ⟨A2, p2.length, c2⟩⟩).toArray 30)).ownsRow B 30 3 (.slice rA ys.length rc) ys.length (ys.flatMap ruC)) := HT6.out.rown
  have hb6 : (w5.drew.alloc (.cells (ruC ⟨bk, ⟨A1, p1.length, c1⟩, ⟨A2, p2.length, c2⟩⟩).toArray 30)).heap[gT]? = w5.heap[gT]? := Below.heap_alloc w5 _ gT hT5
  have HQT : Hid ((w5.drew.alloc (.cells (ruC ⟨bk, ⟨A1, p1.length, c1⟩, ⟨A2, p2.length, c2⟩⟩).toArray 30)).cell? ⟨gT, n * 3 + 2, none⟩ = some (.slice rA ys.length rc)) := (World.cell?_of_block (w := w5) hb6).trans HQ.out
  have HFT : Hid ((w5.drew.alloc (.cells (ruC ⟨bk, ⟨A1, p1.length, c1⟩, ⟨A2, p2.length, c2⟩⟩).toArray 30)).frozen? ⟨gT, n * 3 + 2, none⟩ = false) := (World.frozen?_of_block (w := w5) hb6).trans HF.out
  have HK5 : Hid (Keep (blkL (.slice (some ⟨gT, 0, none⟩) (n + 1) cv) ++ blkL (Sl.v ⟨rA, ys.length, rc⟩)) w5 fun u => RdE atC 34 u (.slice A1 p1.length c1) p1 ∧ RdE atC 34 u (.slice A2 p2.length c2) p2) := by
    have hX : ∀ b ∈ blkL (.slice (some ⟨gT, 0, none⟩) (n + 1) cv) ++ blkL (Sl.v ⟨rA, ys.length, rc⟩), b < w.heap.size := fun b hb => by
      rcases List.mem_append.1 hb with hb | hb
      · have e : gT = b := by simpa [Value.ownBlock] using mem_blkL.1 hb
        omega
      · exact (World.ownsRow.lt HT.out.rown b (mem_blkL.1 hb)).2
    exact (OwnE.keepX atC_len HO5.out (fun b hb => .inl (by have := hX b hb; omega))).and (OwnE.keepX atC_len HP5.out (fun b hb => .inl (by have := hX b hb; omega)))
  have HK6 := Lib.hid (HK5.out.step (w' := w5.drew.alloc (.cells (ruC ⟨bk, ⟨A1, p1.length, c1⟩, ⟨A2, p2.length, c2⟩⟩).toArray 30)) (by simp) (fun b hb hX => ⟨Below.heap_alloc w5 _ b hb, hX⟩))
  have HB6 : Hid (Below B w (w5.drew.alloc (.cells (ruC ⟨bk, ⟨A1, p1.length, c1⟩, ⟨A2, p2.length, c2⟩⟩).toArray 30))) := ((HB5.out.mono hB).drew).alloc (Nat.le_trans hB HB5.out.size) _
  clear HK5
  go_upto_region 16 with fail
  go_region_law (first
    | (refine step_appE rfl (.tmp 57) (.tmp 59) 31 30 rfl Tryd.underlying31 _ ruC 3 56 rule_info rfl (by decide) ruC_len ruC_one B (.slice rA ys.length rc) ys (by simp [Act.eval, Act.put]) (by exact HOR.out) (.slice (some ⟨w5.heap.size, 0, none⟩) 1 1) [⟨bk, ⟨A1, p1.length, c1⟩, ⟨A2, p2.length, c2⟩⟩] (by simp [Act.eval, Act.put]) (by exact rdE_one_at ruC 3 ruC_len w5.drew _ rfl ⟨bk, ⟨A1, p1.length, c1⟩, ⟨A2, p2.length, c2⟩⟩ 30) (by simp only [List.length_singleton]; omega) (by decide) (by simp; omega) ?_
       intro v7 w7 hown7 hbel7 hgr7 hat7
       obtain ⟨A7, c7, hv7⟩ := own_shape hown7
       subst hv7
       have hb7 : w7.heap[gT]? = (w5.drew.alloc (.cells (ruC ⟨bk, ⟨A1, p1.length, c1⟩, ⟨A2, p2.length, c2⟩⟩).toArray 30)).heap[gT]? := hgr7.block gT (by simp; omega) (by intro e; exact hTR e.symm)
       have f1 : w7.cell? ⟨gT, n * 3 + 2, none⟩ = some (.slice rA ys.length rc) := (World.cell?_of_block (w := w5.drew.alloc (.cells (ruC ⟨bk, ⟨A1, p1.length, c1⟩, ⟨A2, p2.length, c2⟩⟩).toArray 30)) hb7).trans HQT.out
       have f2 : w7.frozen? ⟨gT, n * 3 + 2, none⟩ = false := (World.frozen?_of_block (w := w5.drew.alloc (.cells (ruC ⟨bk, ⟨A1, p1.length, c1⟩, ⟨A2, p2.length, c2⟩⟩).toArray 30)) hb7).trans HFT.out
       have HN7 := Lib.hid hown7
       have HL7 := Lib.hid hbel7
       have HG7 := Lib.hid hgr7
       have HA7 := Lib.hid hat7
       clear hown7 hbel7 hgr7 hat7 hb7))
  all_goals (go_wp2_with fail)
  all_goals
    rw [HRR.out, HE.out]
    have h7 : OwnE 30 ruC 3 w7 B (Sl.v ⟨A7, ys.length + 1, c7⟩) (ys ++ [⟨bk, ⟨A1, p1.length, c1⟩, ⟨A2, p2.length, c2⟩⟩]) := by
      have h := HN7.out
      have e : (ys ++ [(⟨bk, ⟨A1, p1.length, c1⟩, ⟨A2, p2.length, c2⟩⟩ : RuV)]).length = ys.length + 1 := by simp
      unfold OwnE Sl.v
      rw [e] at h ⊢
      exact h
    have h8 : (Sl.v ⟨A7, ys.length + 1, c7⟩).ownBlock = (Sl.v ⟨rA, ys.length, rc⟩).ownBlock ∨ (Sl.v ⟨A7, ys.length + 1, c7⟩).ownBlock = some (w5.drew.alloc (.cells (ruC ⟨bk, ⟨A1, p1.length, c1⟩, ⟨A2, p2.length, c2⟩⟩).toArray 30)).heap.size := by
      have h := HA7.out
      have e : (ys ++ [(⟨bk, ⟨A1, p1.length, c1⟩, ⟨A2, p2.length, c2⟩⟩ : RuV)]).length = ys.length + 1 := by simp
      rw [e] at h
      exact h
    exact ⟨_, _, rfl, rfl, fun _ => ⟨_, _, _, TS.rule HT6.out n hn gT cv rfl xs[n] hxg ⟨bk, p1, p2⟩ ⟨bk, ⟨A1, p1.length, c1⟩, ⟨A2, p2.length, c2⟩⟩ rfl HK6.out (rv' := ⟨A7, ys.length + 1, c7⟩) h7 HG7.out h8⟩, (HL7.out B w (Nat.le_refl _) HB6.out).setCell (p := ⟨gT, n * 3 + 2, none⟩) hBT _⟩

end Go.Proofs.YtpboaadjbkaidaaDoor

namespace Go.Proofs.YtpboaadjbkaidaaDoor
set_option maxRecDepth 100000
open Go.RowKit

theorem RS.but {eR : TypeId} {g B : Nat} {w w' : World} {v : Value} {rs : List Ru} {ys : List RuV} (h : RS eR [g] B w v rs ys) (hb : But g w w') : RS eR [g] B w' v rs ys :=
  h.keep hb.size fun b hlt hX => hb.block b hlt (fun e => hX (by rw [e]; exact List.mem_singleton.2 rfl))
theorem RS.alloc {eR : TypeId} {X : List Nat} {B : Nat} {w : World} {v : Value} {rs : List Ru} {ys : List RuV} (h : RS eR X B w v rs ys) (o : Obj) : RS eR X B (w.alloc o) v rs ys :=
  h.keep (by simp) fun b hlt _ => Below.heap_alloc w o b hlt
end Go.Proofs.YtpboaadjbkaidaaDoor

namespace Go.Proofs.YtpboaadjbkaidaaDoor
set_option maxRecDepth 100000
open Go.RowKit

theorem got_lt {w : World} {m : Int} (h : w.cell? ⟨0, 0, none⟩ = some (.int .i64 m)) : 0 < w.heap.size := by
  unfold World.cell? at h
  split at h
  · rename_i hh
    exact (Array.getElem?_eq_some_iff.1 hh).1
  · cases h
theorem wordsL_len (l : List UInt8) : ∀ w ∈ wordsL l, w.length ≤ l.length := by
  have : ∀ (l cur : List UInt8), ∀ w ∈ wordsA cur l, w.length ≤ cur.length + l.length := by
    intro l
    induction l with
    | nil =>
      intro cur w hw
      rw [wordsA] at hw
      split at hw
      · simp at hw
      · simp at hw; subst hw; simp
    | cons b l ih =>
      intro cur w hw
      rw [wordsA] at hw
      split at hw
      · rcases List.mem_append.1 hw with hw | hw
        · split at hw
          · simp at hw
          · simp at hw; subst hw; simp
        · have := ih [] w hw
          simp at this ⊢
          omega
      · have := ih _ w hw
        simp at this ⊢
        omega
  intro w hw
  have := this l [] w hw
  simpa using this
theorem line_len (ts : List Tb) (w : List (List UInt8)) (h : (lineF ts w).2 = 0) (hl : ts.length ≤ 16) : (lineF ts w).1.length ≤ 16 := by
  unfold lineF at h ⊢
  split at h
  · rename_i h1
    rw [if_pos h1]
    unfold tableF at h ⊢
    split at h
    · exact absurd h (by decide)
    · rename_i h2
      rw [if_neg h2]
      split at h
      · exact absurd h (by decide)
      · rename_i h3
        rw [if_neg h3]
        split at h
        · exact absurd h (by decide)
        · rename_i h4
          rw [if_neg h4]
          split at h
          · exact absurd h (by decide)
          · rename_i h5
            rw [if_neg h5]
            simp
            omega
  · rename_i h1
    rw [if_neg h1]
    split at h
    · rename_i h2
      rw [if_pos h2]
      unfold ruleF at h ⊢
      split at h
      · exact absurd h (by decide)
      · rename_i h3
        rw [if_neg h3]
        split at h
        · exact absurd h (by decide)
        · rename_i h4
          rw [if_neg h4]
          split at h
          · rename_i h5; exact absurd h h5
          · rename_i h5
            rw [if_neg h5]
            split at h
            · rename_i h6; exact absurd h h6
            · rename_i h6
              rw [if_neg h6]
              split at h
              · exact absurd h (by decide)
              · rename_i h7
                rw [if_neg h7, addLast_len]
                exact hl
    · exact absurd h (by decide)
/-- What a call gives that reads a rule file. -/
def RetTbs (w : World) (r : List Tb × Nat × Int) (e : Ending) (w' : World) : Prop := ∃ v, e = .returned (.tuple #[v, .int .i64 (r.2.1 : Nat), .int .i64 r.2.2]) ∧ RdTb w' v r.1 ∧ Below w.heap.size w w'

set_option maxRecDepth 100000 in
set_option maxHeartbeats 8000000 in
theorem addLine_any (B : Nat) (w : World) (v wv : Value) (ts : List Tb) (xs : List TbV) (rv : Sl) (ys : List RuV) (ws : List ByteArray) (ht : TS 46 30 B w v ts xs rv ys) (hw : RdE strC 1 w wv ws) (hB : B ≤ w.heap.size) (hl : ts.length ≤ 16) (hws : ∀ s ∈ ws, s.size ≤ 2147483648) (h0 : ws ≠ []) :
    Calls Tryd.prog 54 #[v, wv] w (RetTab B w (lineF ts (ws.map fun s => s.data.toList))) := by
  obtain ⟨R, HRR⟩ : ∃ R, Hid (R = RetTab B w (lineF ts (ws.map fun s => s.data.toList))) := ⟨_, rfl⟩
  rw [← HRR.out]
  have HTB := Lib.hid (addTable_any B w v wv ts xs rv ys ws ht hw hB hl hws)
  have HRU := Lib.hid (addRule_any B w v wv ts xs rv ys ws ht hw hB hl hws)
  obtain ⟨Av, cv, rfl⟩ := ht.rd.shape
  obtain ⟨Aw, cw, rfl, hlw, _⟩ := hw.shape
  obtain ⟨a, ws2, rfl⟩ : ∃ a ws2, ws = a :: ws2 := by
    match ws, h0 with
    | a :: l, _ => exact ⟨a, l, rfl⟩
  obtain ⟨bb, o, rfl, hbl, hcell⟩ := hw.cells (by simp)
  have q0 := hcell 0 a 0 (.string a) rfl rfl
  rw [show o + (0 * 1 + 0) = o by omega] at q0
  have hlp : (0 : Int) < ((a :: ws2).length : Int) := by (simp <;> omega)
  clear hcell ht hw h0 hws
  have e : lineF ts ((a :: ws2).map fun s => s.data.toList) = if a.data.toList = wTable then tableF ts ((a :: ws2).map fun s => s.data.toList) else if a.data.toList = wBreak ∨ a.data.toList = wKeep then ruleF ts ((a :: ws2).map fun s => s.data.toList) else ([], 2) := rfl
  generalize lineF ts ((a :: ws2).map fun s => s.data.toList) = rr at e HRR
  generalize tableF ts ((a :: ws2).map fun s => s.data.toList) = r1 at e HTB
  generalize ruleF ts ((a :: ws2).map fun s => s.data.toList) = r2 at e HRU
  generalize (a :: ws2).length = nw at hlp HTB HRU hlw ⊢
  unfold RetTab at HTB HRU
  by_cases ht1 : a.data.toList = wTable
  · have t1 : (a.toList == [116, 97, 98, 108, 101]) = true := by rw [toList_eq_data, ht1]; rfl
    have e0 : rr = r1 := by rw [e, if_pos ht1]
    clear e ht1
    go_enter Tryd.func54, Tryd.ntmps54
    go_wp2_with (go_at_call 87; refine HTB.out.mono ?_; rintro e w2 ⟨v2, x2, rfl, hx2, ht2, hb2⟩; subst hx2)
    rw [HRR.out, e0]
    exact ⟨v2, _, rfl, rfl, ht2, hb2⟩
  have t1 : (a.toList == [116, 97, 98, 108, 101]) = false := by rw [toList_eq_data]; exact beq_eq_false_iff_ne.2 ht1
  by_cases ht2 : a.data.toList = wBreak
  · have t2 : (a.toList == [98, 114, 101, 97, 107]) = true := by rw [toList_eq_data, ht2]; rfl
    have e0 : rr = r2 := by rw [e, if_neg ht1, if_pos (.inl ht2)]
    clear e ht1 ht2
    go_enter Tryd.func54, Tryd.ntmps54
    go_wp2_with (go_at_call 88; refine HRU.out.mono ?_; rintro e w2 ⟨v2, x2, rfl, hx2, ht2, hb2⟩; subst hx2)
    rw [HRR.out, e0]
    exact ⟨v2, _, rfl, rfl, ht2, hb2⟩
  have t2 : (a.toList == [98, 114, 101, 97, 107]) = false := by rw [toList_eq_data]; exact beq_eq_false_iff_ne.2 ht2
  by_cases ht3 : a.data.toList = wKeep
  · have t3 : (a.toList == [107, 101, 101, 112]) = true := by rw [toList_eq_data, ht3]; rfl
    have e0 : rr = r2 := by rw [e, if_neg ht1, if_pos (.inr ht3)]
    clear e ht1 ht2 ht3
    go_enter Tryd.func54, Tryd.ntmps54
    go_wp2_with (go_at_call 88; refine HRU.out.mono ?_; rintro e w2 ⟨v2, x2, rfl, hx2, ht2, hb2⟩; subst hx2)
    rw [HRR.out, e0]
    exact ⟨v2, _, rfl, rfl, ht2, hb2⟩
  have t3 : (a.toList == [107, 101, 101, 112]) = false := by rw [toList_eq_data]; exact beq_eq_false_iff_ne.2 ht3
  have e0 : rr = ([], 2) := by rw [e, if_neg ht1, if_neg (by rintro (h | h); exact ht2 h; exact ht3 h)]
  clear e ht1 ht2 ht3
  go_enter Tryd.func54, Tryd.ntmps54
  go_wp2_with fail
  rw [HRR.out, e0]
  exact ⟨_, _, rfl, rfl, fun h => absurd h (by decide), Below.refl _ _⟩

set_option maxRecDepth 100000 in
set_option maxHeartbeats 8000000 in
theorem segParse_any (s : ByteArray) (w : World) (hg : Got w) : Calls Tryd.prog 20 #[.string s] w (RetTbs w (rulesF s)) := by
  obtain ⟨R, HRR⟩ : ∃ R, Hid (R = RetTbs w (rulesF s)) := ⟨_, rfl⟩
  rw [← HRR.out]
  by_cases h16 : 65536 < s.size
  · have h16i : (65536 : Int) < (s.size : Int) := by omega
    have e0 : rulesF s = ([], 0, 3) := by unfold rulesF; rw [if_pos h16]
    go_enter Tryd.func20, Tryd.ntmps20
    go_wp2_with fail
    go_ret3
    rw [HRR.out, e0]
    exact ⟨_, rfl, RdTb.nil, Below.refl _ _⟩
  have h16i : ¬ (65536 : Int) < (s.size : Int) := by omega
  obtain ⟨r, hr⟩ : ∃ r, rulesF s = r := ⟨_, rfl⟩
  have HR0 : Hid (linesF (linesL s.data.toList) 0 [] = r) := by show _ = _; rw [← hr]; unfold rulesF; rw [if_neg h16]
  have hsl : s.data.toList.length ≤ 65536 := by rw [← Lib.size_eq]; omega
  rw [hr] at HRR
  clear hr h16
  go_enter Tryd.func20, Tryd.ntmps20
  go_wp2_with fail
  obtain ⟨wo, HWO⟩ : ∃ wo, Hid (wo = w) := ⟨w, rfl⟩
  go_loopg [0, 2, 3, 4] s.data.toList.length (fun gk tv v kv ev wr => ∃ (t : ByteArray) (v' : Value) (k : Nat) (ts : List Tb) (xs : List TbV) (rv : Sl) (ys : List RuV), tv = .string t ∧ v = v' ∧ kv = .int .i64 (k : Nat) ∧ ev = .int .i64 0 ∧ Hid (TS 46 30 w.heap.size wr v' ts xs rv ys) ∧ Hid (Below w.heap.size w wr) ∧ Hid (linesF (linesL t.data.toList) k ts = r) ∧ ts.length ≤ 16 ∧ t.data.toList.length + k ≤ 65536 ∧ t.data.toList.length ≤ gk)
  case atStart => exact ⟨s, _, 0, [], [], ⟨none, 0, 0⟩, [], rfl, rfl, rfl, rfl, TS.start, Below.refl _ _, HR0.out, by simp, by omega, Nat.le_refl _⟩
  case round =>
    clear HR0 hsl
    obtain ⟨t, v, k, ts, xs, rv, ys, rfl, rfl, rfl, rfl, HT, HB, HR, hl16, htl, hgk⟩ := hrel
    obtain ⟨Av, cv, hv⟩ := HT.out.rd.shape
    subst hv
    by_cases he : t.data.toList = []
    · have t1 : (t.toList != []) = false := by rw [toList_eq_data, he]; rfl
      have t2 : t.toList.isEmpty = true := by rw [toList_eq_data, he]; rfl
      have e0 : r = (ts, 0, 0) := by rw [← HR.out, he]; rfl
      clear he HR
      go_wp2_with fail
      go_ret3
      rw [HRR.out, e0]
      exact ⟨_, rfl, HT.out.rd, HB.out⟩
    have t1 : (t.toList != []) = true := by rw [toList_eq_data]; exact bne_iff_ne.2 he
    have t2 : t.toList.isEmpty = false := by rw [toList_eq_data]; exact List.isEmpty_eq_false_iff.2 he
    obtain ⟨m, hm⟩ := hg
    have hm2 : wr.cell? ⟨0, 0, none⟩ = some (.int .i64 m) := (HB.out.cell (p := ⟨0, 0, none⟩) (got_lt hm)).trans hm
    have hts : t.size ≤ 65536 := by rw [Lib.size_eq]; omega
    have HC := Lib.hid (Tryd.strings_Cut t ⟨#[10]⟩ m wr (by omega) hm2)
    have hcl := cut_lines t.data.toList he
    have hcn := cut_len t.data.toList he
    have hcf := cut_fst t.data.toList
    rw [show (⟨#[10]⟩ : ByteArray).data.toList = [10] from rfl] at HC
    have HR1 : Hid (linesF (linesL t.data.toList) k ts = r) := HR.out
    rw [hcl] at HR1
    generalize Lib.cut t.data.toList [10] = cc at HC hcn hcf HR1
    clear hcl HR
    obtain ⟨c1, c2, c3⟩ := cc
    simp only at HC hcn hcf HR1
    go_upto_region 7 with (go_at_call 52; refine HC.out.mono ?_; rintro e w1 ⟨rfl, n1, rfl⟩)
    have HT1 := Lib.hid (HT.out.keep (w' := wr.drewN n1) (Nat.le_refl _) (fun b _ => rfl))
    have HB1 : Hid (Below w.heap.size w (wr.drewN n1)) := below_drewN HB.out n1
    clear HT HB HC hm2
    generalize wr.drewN n1 = w1 at HT1 HB1 ⊢
    change Hid (linesF (c1 :: linesL c2) k ts = r) at HR1
    have hm3 : Got w1 := ⟨m, (HB1.out.cell (p := ⟨0, 0, none⟩) (got_lt hm)).trans hm⟩
    have hofl : ∀ l : List UInt8, (⟨l.toArray⟩ : ByteArray) = ofL l := fun _ => rfl
    rw [hofl c1, hofl c2]
    have hcs : (ofL c1).size ≤ 65536 := by rw [Lib.size_eq, ofL_list]; omega
    have HW := Lib.hid (words_any (ofL c1) w1 (by omega) hm3)
    have hwd : wordsL (ofL c1).data.toList = wordsL c1 := by rw [ofL_list]
    have hwm : (wordsB (ofL c1)).map (fun s => s.data.toList) = wordsL c1 := by
      unfold wordsB
      rw [hwd, List.map_map]
      exact (List.map_congr_left fun x _ => ofL_list x).trans (List.map_id _)
    have hwb : ∀ x ∈ wordsB (ofL c1), x.size ≤ 65536 := fun x hx => by
      have h1 : x.data.toList ∈ wordsL c1 := by rw [← hwm]; exact List.mem_map_of_mem hx
      have := wordsL_len c1 _ h1
      rw [Lib.size_eq]; omega
    have hwn : ∀ x ∈ wordsB (ofL c1), x.data.toList ≠ [] := fun x hx => wordsL_ne c1 _ (by rw [← hwm]; exact List.mem_map_of_mem hx)
    unfold RetWords at HW
    generalize wordsB (ofL c1) = ws at HW hwm hwb hwn
    clear hwd hm hm3
    go_wp2_with fail
    refine HW.out.mono ?_
    rintro e w2 ⟨wv, rfl, ho2, hb2⟩
    go_upto_region 8 with fail
    have HT2 := Lib.hid (HT1.out.below hb2 (Nat.le_refl _))
    have HB2 := Lib.hid (HB1.out.trans (hb2.mono HB1.out.size))
    have HRW := Lib.hid (OwnE.rd (f := strC) (m := 1) (fun _ => rfl) ho2)
    obtain ⟨Aw, cw, hwv⟩ := own_shape ho2
    subst hwv
    clear ho2 hb2 HT1 HB1 HW
    have HRL : Hid (r = if idle (wordsL c1) = true then linesF (linesL c2) (k + 1) ts else if (lineF ts (wordsL c1)).2 ≠ 0 then ([], k + 1, (lineF ts (wordsL c1)).2) else linesF (linesL c2) (k + 1) (lineF ts (wordsL c1)).1) := HR1.out.symm
    rw [← hwm] at HRL
    clear HR1 hwm
    rcases ws with _ | ⟨a, ws2⟩
    · have e1 : linesF (linesL c2) (k + 1) ts = r := (HRL.out.trans (if_pos rfl)).symm
      go_wp2_with fail
      go_roundg c2.length
      case measure => omega
      case rel => exact ⟨ofL c2, _, k + 1, ts, xs, rv, ys, rfl, rfl, by go_num, rfl, HT2.out, HB2.out, by (show linesF _ _ _ = _); rw [ofL_list]; exact e1, hl16, by rw [ofL_list]; omega, by rw [ofL_list]; exact Nat.le_refl _⟩
    · obtain ⟨bb, o, rfl, hbl, hcell⟩ := HRW.out.cells (by simp)
      have q0 := hcell 0 a 0 (.string a) rfl rfl
      rw [show o + (0 * 1 + 0) = o by omega] at q0
      clear hcell
      have ha := hwn a (by simp)
      have ha0 : 0 < a.size := by rw [Lib.size_eq]; exact List.length_pos_iff.2 ha
      have ha0i : (0 : Int) < (a.size : Int) := by omega
      have hid : idle ((a :: ws2).map fun s => s.data.toList) = (a[0].toNat == 35) := by
        show (a.data.toList.head? == some 35) = _
        have e1 : a.data.toList.head? = some a[0] := by
          rw [List.head?_eq_getElem?, List.getElem?_eq_getElem (by rw [← Lib.size_eq]; exact ha0)]
          rfl
        rw [e1, Bool.eq_iff_iff]
        simp [← UInt8.toNat_inj]
      have hlen := line_len ts ((a :: ws2).map fun s => s.data.toList)
      have HAD := Lib.hid (addLine_any w.heap.size w2 _ _ ts xs rv ys (a :: ws2) HT2.out HRW.out HB2.out.size hl16 (fun x hx => Nat.le_trans (hwb x hx) (by decide)) (by simp))
      unfold RetTab at HAD
      rw [hid] at HRL
      generalize lineF ts ((a :: ws2).map fun s => s.data.toList) = lr at HAD HRL hlen
      have hnw : (1 : Nat) ≤ (a :: ws2).length := by simp
      clear hid ha hwb hwn HRW
      generalize (a :: ws2).length = nw at HAD hnw ⊢
      have hnwi : ((nw : Int) == 0) = false := beq_eq_false_iff_ne.2 (by omega)
      have hnwj : (0 : Int) < (nw : Int) := by omega
      by_cases h35 : a[0].toNat = 35
      · have t35 : (((a[0].toNat : Nat) : Int) == 35) = true := by rw [h35]; rfl
        have e1 : linesF (linesL c2) (k + 1) ts = r := (HRL.out.trans (if_pos (by rw [h35]; rfl))).symm
        clear h35 HAD HRL
        go_wp2_with fail
        go_roundg c2.length
        case measure => omega
        case rel => exact ⟨ofL c2, _, k + 1, ts, xs, rv, ys, rfl, rfl, by go_num, rfl, HT2.out, HB2.out, by (show linesF _ _ _ = _); rw [ofL_list]; exact e1, hl16, by rw [ofL_list]; omega, by rw [ofL_list]; exact Nat.le_refl _⟩
      · have t35 : (((a[0].toNat : Nat) : Int) == 35) = false := beq_eq_false_iff_ne.2 (by omega)
        rw [beq_eq_false_iff_ne.2 h35, if_neg Bool.false_ne_true] at HRL
        clear h35
        obtain ⟨l1, x1⟩ := lr
        simp only at HAD HRL hlen
        by_cases hx : x1 = 0
        · have e1 : linesF (linesL c2) (k + 1) l1 = r := by rw [HRL.out, if_neg (not_not_intro hx)]
          have tx : (x1 != 0) = false := by simpa using hx
          clear HRL
          go_wp2_with (go_at_call 54; refine HAD.out.mono ?_; rintro e w3 ⟨v3, x3, rfl, hx3, ht3, hb3⟩; subst hx3)
          obtain ⟨xs3, rv3, ys3, HT3⟩ := ht3 hx
          go_roundg c2.length
          case measure => omega
          case rel => exact ⟨ofL c2, v3, k + 1, l1, xs3, rv3, ys3, rfl, rfl, by go_num, by first | rfl | (rw [hx]), HT3, HB2.out.trans hb3, by (show linesF _ _ _ = _); rw [ofL_list]; exact e1, hlen hx hl16, by rw [ofL_list]; omega, by rw [ofL_list]; exact Nat.le_refl _⟩
        · have e1 : r = ([], k + 1, x1) := by rw [HRL.out, if_pos hx]
          have tx : (x1 != 0) = true := bne_iff_ne.2 hx
          clear HRL
          go_wp2_with (go_at_call 54; refine HAD.out.mono ?_; rintro e w3 ⟨v3, x3, rfl, hx3, ht3, hb3⟩; subst hx3)
          go_ret3
          rw [HRR.out, e1]
          exact ⟨_, rfl, RdTb.nil, HB2.out.trans hb3⟩

end Go.Proofs.YtpboaadjbkaidaaDoor

namespace Go.Proofs.YtpboaadjbkaidaaDoor
set_option maxRecDepth 100000
open Go.RowKit

theorem known_small : ((rulesF knownT).1.all fun t => decide (t.rs.length ≤ 40) && t.rs.all fun r => decide (r.bf.length ≤ 40) && decide (r.af.length ≤ 40)) = true := by decide +kernel
theorem known_shape : ∃ T : Tb, rulesF knownT = ([T], 0, 0) ∧ breaksF T.rs knownS = [11] ∧ T.rs.length ≤ 1000000 ∧ ∀ r ∈ T.rs, r.bf.length ≤ 1000000 ∧ r.af.length ≤ 1000000 := by
  have h1 := known_len
  have h2 := known_breaks
  have h3 := known_small
  generalize rulesF knownT = k at h1 h2 h3
  obtain ⟨l, n, x⟩ := k
  obtain ⟨h4, h5, h6⟩ := h1
  obtain ⟨T, rfl⟩ : ∃ T, l = [T] := List.length_eq_one_iff.1 h4
  have h7 : (decide (T.rs.length ≤ 40) && T.rs.all fun r => decide (r.bf.length ≤ 40) && decide (r.af.length ≤ 40)) = true := by
    have := List.all_eq_true.1 h3 T (by simp)
    exact this
  rw [Bool.and_eq_true] at h7
  refine ⟨T, by rw [show n = 0 from h5, show x = 0 from h6], h2, ?_, fun r hr => ?_⟩
  · have := of_decide_eq_true h7.1
    omega
  · have := List.all_eq_true.1 h7.2 r hr
    rw [Bool.and_eq_true] at this
    have h8 := of_decide_eq_true this.1
    have h9 := of_decide_eq_true this.2
    omega

set_option maxRecDepth 100000 in
set_option maxHeartbeats 4000000 in
theorem known6_any (w : World) (hg : Got w) : Calls Tryd.prog 17 #[] w fun e w' => e = .returned (.bool true) ∧ Below w.heap.size w w' := by
  have HP := Lib.hid (segParse_any knownT w hg)
  obtain ⟨T, hT, hbr, hrl, hal⟩ := known_shape
  rw [hT] at HP
  unfold RetTbs at HP
  go_enter Tryd.func17, Tryd.ntmps17
  go_upto_region 2 with (go_at_call 20; refine HP.out.mono ?_; rintro e w1 ⟨v1, rfl, hr1, hb1⟩)
  obtain ⟨xs, hx0, hxl, hx⟩ := hr1
  obtain ⟨A, c, hv, hlc, _⟩ := hx0.shape
  have hxl1 : xs.length = 1 := hxl
  rw [hxl1] at hv
  subst hv
  obtain ⟨x, rfl⟩ : ∃ x, xs = [x] := List.length_eq_one_iff.1 hxl1
  obtain ⟨b, o, rfl, hbl, hcell⟩ := hx0.cells (by simp)
  have q2 := hcell 0 x 2 x.r.v rfl rfl
  rw [show o + (0 * 3 + 2) = o + 2 by omega] at q2
  have HRU := Lib.hid (hx 0 x T rfl rfl).2.2
  obtain ⟨nm, pa, ⟨rA, rn, rc⟩⟩ := x
  change w1.cell? _ = some (.slice rA rn rc) at q2
  change Hid (RdRu w1 (.slice rA rn rc) T.rs) at HRU
  have HB1 := Lib.hid hb1
  have HBR := Lib.hid (breaks_any T.rs (.slice rA rn rc) knownS w1 HRU.out hrl hal)
  rw [hbr] at HBR
  unfold RetOwn at HBR
  clear hcell hx hx0 hxl hxl1 hb1 HP hT hbr hrl hal HRU
  go_upto_region 5 with (go_at_call 16; refine HBR.out.mono ?_; rintro e w2 ⟨v2, rfl, ho2, hb2⟩)
  have HR2 := OwnE.rd (f := intC) (m := 1) (fun _ => rfl) ho2
  obtain ⟨A2, c2, hv2⟩ := own_shape ho2
  subst hv2
  obtain ⟨b2, o2, rfl, hbl2, hcell2⟩ := HR2.cells (by simp)
  have q3 := hcell2 0 11 0 (.int .i64 11) rfl rfl
  rw [show o2 + (0 * 1 + 0) = o2 by omega] at q3
  have HBF := Lib.hid (HB1.out.trans (hb2.mono HB1.out.size))
  clear hcell2 HR2 ho2 hb2 HBR
  go_wp2_with fail
  go_ret
  exact ⟨rfl, HBF.out⟩

end Go.Proofs.YtpboaadjbkaidaaDoor

namespace Go.Proofs.YtpboaadjbkaidaaDoor
set_option maxRecDepth 100000
open Go.RowKit

theorem got_below {w w' : World} (hg : Got w) (hb : Below w.heap.size w w') : Got w' := by
  obtain ⟨m, hm⟩ := hg
  exact ⟨m, (hb.cell (p := ⟨0, 0, none⟩) (got_lt hm)).trans hm⟩
end Go.Proofs.YtpboaadjbkaidaaDoor

namespace Go.Proofs.YtpboaadjbkaidaaDoor
set_option maxRecDepth 100000

theorem extract_list (s : ByteArray) (a b : Nat) : (s.extract a b).data.toList = (s.data.toList.take b).drop a := by
  rw [ByteArray.data_extract, Array.toList_extract, List.extract_eq_drop_take']
theorem midL_self {α : Type} (l : List α) (i : Nat) : (l.take i).drop i = [] := List.drop_eq_nil_of_le (by simp; omega)
theorem midL_snoc {α : Type} (l : List α) (f i : Nat) (hf : f ≤ i) (hi : i < l.length) : (l.take (i + 1)).drop f = (l.take i).drop f ++ [l[i]] := by
  rw [List.take_succ_eq_append_getElem hi, List.drop_append_of_le_length (by simp; omega)]
theorem midL_len {α : Type} (l : List α) (f i : Nat) (hi : i ≤ l.length) : ((l.take i).drop f).length = i - f := by simp; omega
theorem midL_nil {α : Type} (l : List α) (f i : Nat) (hi : i ≤ l.length) : (l.take i).drop f = [] ↔ i ≤ f := by
  rw [← List.length_eq_zero_iff, midL_len l f i hi]; omega
/-- What is to be done of the words at place i, the word under way beginning at f. -/
def wordsR (l : List UInt8) (f i : Nat) : List (List UInt8) := wordsA ((l.take i).drop f) (l.drop i)
theorem wordsR_step (l : List UInt8) (f i : Nat) (hf : f ≤ i) (hi : i < l.length) (h : l[i] ≠ 32) : wordsR l f i = wordsR l f (i + 1) := by
  unfold wordsR
  rw [List.drop_eq_getElem_cons hi, wordsA, if_neg h, midL_snoc l f i hf hi]
theorem wordsR_sep (l : List UInt8) (f i : Nat) (hi : i < l.length) (h : l[i] = 32) : wordsR l f i = (if f < i then [(l.take i).drop f] else []) ++ wordsR l (i + 1) (i + 1) := by
  unfold wordsR
  rw [List.drop_eq_getElem_cons hi, wordsA, if_pos h, midL_self l (i + 1)]
  congr 1
  by_cases hf : f < i
  · rw [if_pos hf, if_neg (by rw [midL_nil l f i (by omega)]; omega)]
  · rw [if_neg hf, if_pos (by rw [midL_nil l f i (by omega)]; omega)]
theorem wordsR_end (l : List UInt8) (f : Nat) : wordsR l f l.length = if f < l.length then [(l.take l.length).drop f] else [] := by
  unfold wordsR
  rw [List.drop_eq_nil_of_le (Nat.le_refl _), wordsA]
  by_cases hf : f < l.length
  · rw [if_pos hf, if_neg (by rw [midL_nil l f _ (Nat.le_refl _)]; omega)]
  · rw [if_neg hf, if_pos (by rw [midL_nil l f _ (Nat.le_refl _)]; omega)]
/-- What is to be done of the lines at place i, the line under way beginning at f. -/
def linesA : List UInt8 → List UInt8 → List (List UInt8)
  | cur, [] => if cur = [] then [] else [cur]
  | cur, b :: l => if b = 10 then cur :: linesA [] l else linesA (cur ++ [b]) l
theorem linesA_eq : ∀ (l cur : List UInt8), (∀ b ∈ cur, b ≠ 10) → linesA cur l = linesL (cur ++ l)
  | [], cur, h => by rw [linesA, List.append_nil, linesL_end cur h]
  | b :: l, cur, h => by
    rw [linesA]
    split
    · rename_i hb
      subst hb
      rw [linesL_sep cur l h, linesA_eq l [] (by simp)]
      rfl
    · rename_i hb
      rw [linesA_eq l (cur ++ [b]) (fun x hx => by
        rcases List.mem_append.1 hx with hx | hx
        · exact h x hx
        · rw [List.mem_singleton.1 hx]; exact hb), List.append_assoc]
      rfl
def linesR (l : List UInt8) (f i : Nat) : List (List UInt8) := linesA ((l.take i).drop f) (l.drop i)
theorem linesR_start (l : List UInt8) : linesR l 0 0 = linesL l := linesA_eq l [] (by simp)
theorem linesR_step (l : List UInt8) (f i : Nat) (hf : f ≤ i) (hi : i < l.length) (h : l[i] ≠ 10) : linesR l f i = linesR l f (i + 1) := by
  unfold linesR
  rw [List.drop_eq_getElem_cons hi, linesA, if_neg h, midL_snoc l f i hf hi]
theorem linesR_sep (l : List UInt8) (f i : Nat) (hi : i < l.length) (h : l[i] = 10) : linesR l f i = [(l.take i).drop f] ++ linesR l (i + 1) (i + 1) := by
  unfold linesR
  rw [List.drop_eq_getElem_cons hi, linesA, if_pos h, midL_self l (i + 1)]
  rfl
theorem linesR_end (l : List UInt8) (f : Nat) : linesR l f l.length = if f < l.length then [(l.take l.length).drop f] else [] := by
  unfold linesR
  rw [List.drop_eq_nil_of_le (Nat.le_refl _), linesA]
  by_cases hf : f < l.length
  · rw [if_pos hf, if_neg (by rw [midL_nil l f _ (Nat.le_refl _)]; omega)]
  · rw [if_neg hf, if_pos (by rw [midL_nil l f _ (Nat.le_refl _)]; omega)]
theorem linesL_len : ∀ (l : List UInt8), ∀ x ∈ linesL l, x.length ≤ l.length
  | [], x, h => by simp [linesL] at h
  | b :: l, x, h => by
    rw [linesL] at h
    split at h
    · rcases List.mem_cons.1 h with rfl | h
      · simp
      · have := linesL_len l x h; simp; omega
    · cases hl : linesL l with
      | nil => rw [hl] at h; simp at h; subst h; simp
      | cons y ys =>
        rw [hl] at h
        rcases List.mem_cons.1 h with rfl | h
        · have := linesL_len l y (by rw [hl]; simp); simp; omega
        · have := linesL_len l x (by rw [hl]; simp [h]); simp; omega
theorem linesL_count : ∀ (l : List UInt8), (linesL l).length ≤ l.length
  | [] => Nat.le_refl _
  | b :: l => by
    have ih := linesL_count l
    rw [linesL]
    split
    · simp; omega
    · cases hl : linesL l with
      | nil => simp
      | cons y ys => rw [hl] at ih; simp at ih ⊢; omega

end Go.Proofs.YtpboaadjbkaidaaDoor
