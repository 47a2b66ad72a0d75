
/-
  Breaks, the program's.
-/
import Derived.Test.YtpboaadjbkaidaaDoorSegF
import Derived.Test.YtpboaadjbkaidaaDoorStillM
import Derived.Test.YtpboaadjbkaidaaDoorRevB
import Derived.Test.YtpboaadjbkaidaaDoorSegMem
import Derived.Test.YtpboaadjbkaidaaDoorOpenTok
namespace Go.Proofs.YtpboaadjbkaidaaDoor
set_option maxRecDepth 100000
open Go.RowKit

theorem ruC_oneA (x : RuV) : (ruC x).toArray.all (·.oneCell') = true := by
  rw [Array.all_eq_true_iff_forall_mem]
  intro v hv
  exact ruC_one x v (List.mem_toArray.1 hv)
theorem int_info6 : (Tryd.prog.info? 3).map (fun i => (i.zero, i.size, i.bytes)) = some (some (.int .i64 0), 1, 8) := by kernel_rfl
theorem intC_oneA (x : Int) : ∀ u ∈ intC x, u.oneCell' = true := by
  intro u hu
  simp [intC] at hu
  subst hu
  rfl
theorem ld_slice {w : World} {b o : Nat} {A : Option Addr} {n c : Nat} (h : w.cell? ⟨b, o, none⟩ = some (.slice A n c)) : (Instr.loadAt 28 (.pointer (some ⟨b, o, none⟩))).run Tryd.prog w = .ok (.slice A n c) w := by
  go_simp

set_option maxRecDepth 100000 in
set_option maxHeartbeats 8000000 in
theorem breaks_any (rs : List Ru) (v : Value) (s : ByteArray) (w : World) (ht : RdRu w v rs) (hl : rs.length ≤ 1000000) (hal : ∀ r ∈ rs, r.bf.length ≤ 1000000 ∧ r.af.length ≤ 1000000) :
    Calls Tryd.prog 16 #[v, .string s] w (RetOwn 3 intC 1 w (breaksF rs s)) := by
  obtain ⟨R, HRR⟩ : ∃ R, Hid (R = RetOwn 3 intC 1 w (breaksF rs s)) := ⟨_, rfl⟩
  rw [← HRR.out]
  obtain ⟨xs, hx0, hxl, hx⟩ := ht
  have hxa : xs.length ≤ rs.length := Nat.le_of_eq hxl
  have hxb : rs.length ≤ xs.length := Nat.le_of_eq hxl.symm
  clear hxl
  obtain ⟨Av, cv, rfl, hlc, _⟩ := hx0.shape
  by_cases h24 : 1024 < s.size
  · have h24i : (1024 : Int) < (s.size : Int) := by omega
    have e0 : breaksF rs s = [] := by unfold breaksF; rw [if_pos h24]
    go_enter Tryd.func16, Tryd.ntmps16
    go_wp2_with fail
    rw [HRR.out, e0]
    exact ⟨_, rfl, OwnE.nil, Below.refl _ _⟩
  have h24i : ¬ (1024 : Int) < (s.size : Int) := by omega
  have HX := Lib.hid hx0
  have HXR := Lib.hid hx
  clear hx0 hx
  have hu := Tryd.underlying30
  have hi : (Tryd.prog.info? 30).map (·.size) = some 3 := by kernel_rfl
  have hmk := fun w => run_make_row' (P := Tryd.prog) 86 4 (.bool false) 1 Tryd.underlying86 bool_info rfl .i64 .i64 (s.size + 1) (by omega) (by omega) w
  rw [show ((s.size + 1 : Nat) : Int) = (s.size : Int) + 1 by omega] at hmk
  have HRV := Lib.hid (reversed_any s w (by omega))
  have hbks : (rvS s s.size).size = s.size := rv_size s
  have HBT : Hid (∀ j, j < s.size → bt (rvS s s.size) j = bt s (s.size - 1 - j)) := rv_bt s
  generalize rvS s s.size = bk at HRV hbks HBT
  go_enter Tryd.func16, Tryd.ntmps16
  go_upto_region 4 with (go_at_call 49; refine HRV.out.mono ?_; rintro e w1 ⟨rfl, hb1⟩)
  have HB1 := Lib.hid hb1
  have HD1 : Hid ((w1.alloc (.cells (madeCells #[.bool false] (s.size + 1)) 4)).rowIs w1.heap.size 4 (s.size + 1) (fun j => .bool (false))) := World.rowIs_made w1 (.bool false) (s.size + 1) 4
  have HB2 := Lib.hid (HB1.out.alloc HB1.out.size (.cells (madeCells #[.bool false] (s.size + 1)) 4))
  clear hb1 HRV
  go_upto_region 5 with fail
  have hz1 := HB1.out.size
  generalize w1.heap.size = D at HD1 hz1 ⊢
  generalize w1.alloc (.cells (madeCells #[.bool false] (s.size + 1)) 4) = w2 at HD1 HB2 ⊢
  have HK1 : Hid ((w2.alloc (.cells (madeCells #[.bool false] (s.size + 1)) 4)).rowIs w2.heap.size 4 (s.size + 1) (fun j => .bool (false))) := World.rowIs_made w2 (.bool false) (s.size + 1) 4
  have HB3 := Lib.hid (HB2.out.alloc HB2.out.size (.cells (madeCells #[.bool false] (s.size + 1)) 4))
  have HD2 := Lib.hid (HD1.out.of_block (w' := w2.alloc (.cells (madeCells #[.bool false] (s.size + 1)) 4)) (Below.heap_alloc w2 _ D HD1.out.lt))
  have hDK : D < w2.heap.size := HD1.out.lt
  go_upto_region 6 with fail
  clear HD1 HB2 HB1
  generalize w2.heap.size = K at HK1 hDK ⊢
  generalize w2.alloc (.cells (madeCells #[.bool false] (s.size + 1)) 4) = w3 at HK1 HD2 HB3 ⊢
  go_wp2_with fail
  obtain ⟨wo, HWO⟩ : ∃ wo, Hid (wo = w3) := ⟨w3, rfl⟩
  go_loopg [31] xs.length (fun gk kv wr => ∃ k : Nat, kv = .int .i64 k ∧ k ≤ xs.length ∧ Hid (wr.rowIs D 4 (s.size + 1) (fun j => .bool (decide (0 < j ∧ j < s.size) && foundF (rs.take k) s j))) ∧ Hid (wr.rowIs K 4 (s.size + 1) (fun j => .bool (decide (0 < j ∧ j < s.size) && decideF (rs.take k) s j))) ∧ Hid (Below w.heap.size w wr) ∧ xs.length - k ≤ gk)
  case atStart => exact ⟨0, rfl, by omega, HD2.out.congr (fun j _ => by rw [List.take_zero]; show _ = Value.bool (_ && false); rw [Bool.and_false]), HK1.out.congr (fun j _ => by rw [List.take_zero]; show _ = Value.bool (_ && false); rw [Bool.and_false]), HB3.out, by omega⟩
  case round =>
    clear HD2 HK1 HB3 HWO
    obtain ⟨k, rfl, hk, HD, HK, HB, hgk⟩ := hrel
    by_cases hkl : k < xs.length
    · have hki : (k : Int) < (xs.length : Int) := by omega
      have hk0 : (0 : Int) ≤ (k : Int) := by omega
      obtain ⟨bp, o, rfl, hbl, hcell⟩ := HX.out.cells (by omega)
      have hxk : xs[k]? = some xs[k] := List.getElem?_eq_getElem hkl
      have hrk : rs[k]? = some (rs[k]'(by omega)) := List.getElem?_eq_getElem (by omega)
      have hrg : wr.rangeAt bp (o + k * 3) (ruC xs[k]) := fun j v hj => by
        rw [Nat.add_assoc]
        exact (HB.out.cell (p := ⟨bp, o + (k * 3 + j), none⟩) hbl).trans (hcell k _ j v hxk hj)
      obtain ⟨hbr, hbf, haf⟩ := HXR.out k _ _ hxk hrk
      have HTK : Hid (rs.take (k + 1) = rs.take k ++ [rs[k]'(by omega)]) := List.take_succ_eq_append_getElem (by omega)
      have hrl : (rs[k]'(by omega)).bf.length ≤ 140737488355328 ∧ (rs[k]'(by omega)).af.length ≤ 140737488355 := by have := hal _ (List.getElem_mem (show k < rs.length by omega)); omega
      have HU1 := Lib.hid (hbf.below HB.out (Nat.le_refl _))
      have HT1 := Lib.hid (haf.below HB.out (Nat.le_refl _))
      clear hcell hxk hrk hbf haf
      generalize xs[k] = y at hrg hbr HU1 HT1
      generalize rs[k]'(by omega) = r at hbr HU1 HT1 HTK hrl
      obtain ⟨yb, ⟨uA, un, uc⟩, ⟨tA, tn, tc⟩⟩ := y
      obtain rfl : yb = r.br := hbr
      have hz := HB.out.size
      have hz2 := HB.out.size
      have hq1 : bp < wr.heap.size := Nat.lt_of_lt_of_le hbl hz2
      have HQ : Hid (((wr.alloc (.cells #[.bool false, .slice none 0 0, .slice none 0 0] 30)).setRow wr.heap.size (ruC ⟨r.br, ⟨uA, un, uc⟩, ⟨tA, tn, tc⟩⟩).toArray).heap[wr.heap.size]? = some (.cells (ruC ⟨r.br, ⟨uA, un, uc⟩, ⟨tA, tn, tc⟩⟩).toArray 30)) := setRow_heap _ _ _ _ _ _ (heap_alloc_new wr _)
      have HB4 : Hid (Below w.heap.size w ((wr.alloc (.cells #[.bool false, .slice none 0 0, .slice none 0 0] 30)).setRow wr.heap.size (ruC ⟨r.br, ⟨uA, un, uc⟩, ⟨tA, tn, tc⟩⟩).toArray)) := below_setRow (HB.out.alloc hz _) hz _
      have HN4 : Hid (Below wr.heap.size wr ((wr.alloc (.cells #[.bool false, .slice none 0 0, .slice none 0 0] 30)).setRow wr.heap.size (ruC ⟨r.br, ⟨uA, un, uc⟩, ⟨tA, tn, tc⟩⟩).toArray)) := below_setRow ((Below.refl _ wr).alloc (Nat.le_refl _) _) (Nat.le_refl _) _
      go_upto_region 9 with (first
        | (refine wpList_load_mid rfl 30 (.tmp 33) rfl bp (o + k * 3) rfl (ruC ⟨r.br, ⟨uA, un, uc⟩, ⟨tA, tn, tc⟩⟩) _ hrg hu rfl (by rw [hi]; rfl) ?_)
        | (refine wpList_store_row rfl 30 (.tmp 9) (.tmp 34) rfl (wr.heap.size) (ruC ⟨r.br, ⟨uA, un, uc⟩, ⟨tA, tn, tc⟩⟩).toArray rfl rfl 30 _ (heap_alloc_new wr _) (by rw [hi]; rfl) rfl (ruC_oneA _) ?_))
      have HD4 := Lib.hid (HD.out.of_block (w' := (wr.alloc (.cells #[.bool false, .slice none 0 0, .slice none 0 0] 30)).setRow wr.heap.size (ruC ⟨r.br, ⟨uA, un, uc⟩, ⟨tA, tn, tc⟩⟩).toArray) (HN4.out.block _ HD.out.lt))
      have HK4 := Lib.hid (HK.out.of_block (w' := (wr.alloc (.cells #[.bool false, .slice none 0 0, .slice none 0 0] 30)).setRow wr.heap.size (ruC ⟨r.br, ⟨uA, un, uc⟩, ⟨tA, tn, tc⟩⟩).toArray) (HN4.out.block _ HK.out.lt))
      have HU4 := Lib.hid (HU1.out.below HN4.out (Nat.le_refl _))
      have HT4 := Lib.hid (HT1.out.below HN4.out (Nat.le_refl _))
      have hDq : D < wr.heap.size := HD.out.lt
      have hKq : K < wr.heap.size := HK.out.lt
      have hq4 : wr.heap.size < ((wr.alloc (.cells #[.bool false, .slice none 0 0, .slice none 0 0] 30)).setRow wr.heap.size (ruC ⟨r.br, ⟨uA, un, uc⟩, ⟨tA, tn, tc⟩⟩).toArray).heap.size := (Array.getElem?_eq_some_iff.1 HQ.out).1
      clear HD HK HB HN4 HU1 HT1 hrg hz hz2 hq1
      generalize wr.heap.size = q at HQ HB4 HD4 HK4 HU4 HT4 hDq hKq hq4 ⊢
      generalize (wr.alloc (.cells #[.bool false, .slice none 0 0, .slice none 0 0] 30)).setRow q (ruC ⟨r.br, ⟨uA, un, uc⟩, ⟨tA, tn, tc⟩⟩).toArray = wr4 at HQ HB4 HD4 HK4 HU4 HT4 hq4 ⊢
      change Hid (RdE atC 34 wr4 (.slice uA un uc) r.bf) at HU4
      change Hid (RdE atC 34 wr4 (.slice tA tn tc) r.af) at HT4
      have z0 : wr4.cell? ⟨q, 0, none⟩ = some (.bool r.br) := by rw [cell_of_row _ _ _ _ _ _ HQ.out]; rfl
      have z1 : wr4.cell? ⟨q, 1, none⟩ = some (.slice uA un uc) := by rw [cell_of_row _ _ _ _ _ _ HQ.out]; rfl
      have z2 : wr4.cell? ⟨q, 2, none⟩ = some (.slice tA tn tc) := by rw [cell_of_row _ _ _ _ _ _ HQ.out]; rfl
      have HL1 : Hid ((Instr.loadAt 28 (.pointer (some ⟨q, 1, none⟩))).run Tryd.prog wr4.drew = .ok (.slice uA un uc) wr4.drew) := ld_slice z1
      have HL2 : Hid ((Instr.loadAt 28 (.pointer (some ⟨q, 2, none⟩))).run Tryd.prog wr4.drew = .ok (.slice tA tn tc) wr4.drew) := ld_slice z2
      obtain ⟨hbl0, hal0⟩ := hrl
      refine wp_region_at 11 #[false, false, false, false, false, false, false, false, false, false, false] rfl rfl (by kernel_rfl) ?_
      refine wpAny_at (i := 0) (v := .pointer (some ⟨q, 1, none⟩)) (some 35) rfl rfl (by kernel_rfl) (by kernel_rfl) (by kernel_rfl) (fun _ _ _ h => h) (by kernel_rfl) (fun _ => ex_fieldAddr 30 _ 1 (.pointer (some ⟨q, 0, none⟩)) _ rfl (by kernel_rfl) (by go_simp)) ?_
      simp only [Act.put, List.setIfInBounds_toArray, List.set_cons_zero, List.set_cons_succ]
      refine wpAny_at (i := 2) (v := .string s) (some 37) rfl rfl (by kernel_rfl) (by kernel_rfl) (by kernel_rfl) (fun _ _ _ h => h) (by kernel_rfl) (fun _ => ex_move _ _ rfl (by kernel_rfl)) ?_
      simp only [Act.put, List.setIfInBounds_toArray, List.set_cons_zero, List.set_cons_succ]
      refine wpAny_at (i := 4) (v := .pointer (some ⟨q, 2, none⟩)) (some 39) rfl rfl (by kernel_rfl) (by kernel_rfl) (by kernel_rfl) (fun _ _ _ h => h) (by kernel_rfl) (fun _ => ex_fieldAddr 30 _ 2 (.pointer (some ⟨q, 0, none⟩)) _ rfl (by kernel_rfl) (by go_simp)) ?_
      simp only [Act.put, List.setIfInBounds_toArray, List.set_cons_zero, List.set_cons_succ]
      refine wpAny_at (i := 7) (v := .string bk) (some 42) rfl rfl (by kernel_rfl) (by kernel_rfl) (by kernel_rfl) (fun _ _ _ h => h) (by kernel_rfl) (fun _ => ex_move _ _ rfl (by kernel_rfl)) ?_
      simp only [Act.put, List.setIfInBounds_toArray, List.set_cons_zero, List.set_cons_succ]
      refine wpAny_vals 1 5 (some 36) (some 40) (.slice uA un uc) (.slice tA tn tc) (by kernel_rfl) rfl rfl rfl rfl (by kernel_rfl) (by kernel_rfl) (ex_load 28 _ (.pointer (some ⟨q, 1, none⟩)) _ rfl (by kernel_rfl) (HL1.out)) (ex_load 28 _ (.pointer (some ⟨q, 2, none⟩)) _ rfl (by kernel_rfl) (HL2.out)) ?_ ?_
      · simp only [Act.put, List.setIfInBounds_toArray, List.set_cons_zero, List.set_cons_succ]
        refine wpAny_callval 3 5 (some 38) (some 40) (.slice tA tn tc) (by kernel_rfl) rfl rfl rfl rfl (by kernel_rfl) (by kernel_rfl) 50 (#[.slice uA un uc, .string s]) (by go_simp) (ends_any r.bf s _ wr4.drew HU4.out (by omega) hbl0) (ex_load 28 _ (.pointer (some ⟨q, 2, none⟩)) _ rfl (by kernel_rfl) (HL2.out)) ?_ ?_
        · rintro e w5 ⟨g1, rfl, hg1, hr1, hb5⟩
          refine ⟨_, rfl, ?_⟩
          have HL3 : Hid (∀ w', w'.heap = w5.heap → (Instr.loadAt 28 (.pointer (some ⟨q, 2, none⟩))).run Tryd.prog w' = .ok (.slice tA tn tc) w') := fun w' hw' => ld_slice (by rw [World.cell?_of_block (w := w5) (by rw [hw'])]; exact (hb5.cell (p := ⟨q, 2, none⟩) hq4).trans z2)
          change wpAny _ _ _ _ _ _ (Act.put _ (some 38) _) _
          simp only [Act.put, List.setIfInBounds_toArray, List.set_cons_zero, List.set_cons_succ]
          refine wpAny_val 5 (some 40) (.slice tA tn tc) (by kernel_rfl) rfl rfl (by kernel_rfl) (ex_load 28 _ (.pointer (some ⟨q, 2, none⟩)) _ rfl (by kernel_rfl) (HL3.out _ rfl)) ?_
          simp only [Act.put, List.setIfInBounds_toArray, List.set_cons_zero, List.set_cons_succ]
          refine wpAny_call 6 (some 41) (by kernel_rfl) rfl rfl (by kernel_rfl) 51 (#[.slice tA tn tc]) (by go_simp) (revp_any r.af _ w5 ((show RdE atC 34 wr4.drew _ _ from HT4.out).below hb5 (Nat.le_refl _)) hal0) ?_
          rintro e w6 ⟨v6, rfl, hr6, hb6⟩
          refine ⟨_, rfl, ?_⟩
          change wpAny _ _ _ _ _ _ (Act.put _ (some 41) _) _
          simp only [Act.put, List.setIfInBounds_toArray, List.set_cons_zero, List.set_cons_succ]
          refine wpAny_call 8 (some 43) (by kernel_rfl) rfl rfl (by kernel_rfl) 50 (#[v6, .string bk]) (by go_simp) (ends_any r.af.reverse bk v6 w6 hr6 (by omega) (by simp; omega)) ?_
          rintro e w7 ⟨g2, rfl, hg2, hr2, hb7⟩
          refine ⟨_, rfl, ?_⟩
          rw [hbks]
          change wpAny _ _ _ _ _ _ (Act.put _ (some 43) _) _
          simp only [Act.put, List.setIfInBounds_toArray, List.set_cons_zero, List.set_cons_succ]
          refine wpAny_at (i := 9) (v := .slice (some ⟨g1, 0, none⟩) (s.size + 1) (s.size + 1)) (some 10) rfl rfl (by kernel_rfl) (by kernel_rfl) (by kernel_rfl) (fun _ _ _ h => h) (by kernel_rfl) (fun _ => ex_assign _ _ rfl (by kernel_rfl)) ?_
          simp only [Act.put, List.setIfInBounds_toArray, List.set_cons_zero, List.set_cons_succ]
          refine wpAny_at (i := 10) (v := .slice (some ⟨g2, 0, none⟩) (s.size + 1) (s.size + 1)) (some 11) rfl rfl (by kernel_rfl) (by kernel_rfl) (by kernel_rfl) (fun _ _ _ h => h) (by kernel_rfl) (fun _ => ex_assign _ _ rfl (by kernel_rfl)) ?_
          simp only [Act.put, List.setIfInBounds_toArray, List.set_cons_zero, List.set_cons_succ]
          refine wpAny_done (by kernel_rfl) ?_ _
          rw [hbks] at hr2
          have HG1 : Hid (w7.rowIs g1 4 (s.size + 1) (fun j => .bool (reachF s r.bf allF j))) := (hr1.of_block (hb6.block _ hr1.lt)).of_block (hb7.block _ (hr1.of_block (hb6.block _ hr1.lt)).lt)
          have HG2 : Hid (w7.rowIs g2 4 (s.size + 1) (fun j => .bool (reachF bk r.af.reverse allF j))) := hr2
          have HBq : Hid (Below wr4.heap.size wr4 w7) := ((below_drewN (Below.refl _ wr4) 1).trans hb5).trans ((hb6.trans (hb7.mono hb6.size)).mono hb5.size)
          have HD7 := Lib.hid (HD4.out.of_block (HBq.out.block _ HD4.out.lt))
          have HK7 := Lib.hid (HK4.out.of_block (HBq.out.block _ HK4.out.lt))
          have HB7 := Lib.hid (HB4.out.trans (HBq.out.mono HB4.out.size))
          have z0w := (HBq.out.cell (p := ⟨q, 0, none⟩) hq4).trans z0
          have hg1q : q < g1 := Nat.lt_of_lt_of_le hq4 hg1
          have hg2q : q < g2 := Nat.lt_of_lt_of_le hq4 (Nat.le_trans (Nat.le_trans hb5.size hb6.size) hg2)
          clear hr1 hr2 hb5 hb6 hb7 HL3 hr6 HBq z0 z1 z2 HL1 HL2 HD4 HK4 HB4 HU4 HT4 HQ hq4
          go_wp2_with fail
          obtain ⟨wo2, HWO2⟩ : ∃ wo, Hid (wo = w7) := ⟨w7, rfl⟩
          go_loopg [12] (s.size + 1) (fun gk iv wr => ∃ i : Nat, iv = .int .i64 i ∧ 1 ≤ i ∧ i ≤ s.size + 1 ∧ Hid (wr.rowIs D 4 (s.size + 1) (fun j => .bool (if j < i then decide (0 < j ∧ j < s.size) && foundF (rs.take (k + 1)) s j else decide (0 < j ∧ j < s.size) && foundF (rs.take k) s j))) ∧ Hid (wr.rowIs K 4 (s.size + 1) (fun j => .bool (if j < i then decide (0 < j ∧ j < s.size) && decideF (rs.take (k + 1)) s j else decide (0 < j ∧ j < s.size) && decideF (rs.take k) s j))) ∧ Hid (wr.rowIs g1 4 (s.size + 1) (fun j => .bool (reachF s r.bf allF j))) ∧ Hid (wr.rowIs g2 4 (s.size + 1) (fun j => .bool (reachF bk r.af.reverse allF j))) ∧ wr.cell? ⟨q, 0, none⟩ = some (.bool r.br) ∧ Hid (Below w.heap.size w wr) ∧ s.size + 1 - i ≤ gk)
          case atStart => exact ⟨1, rfl, Nat.le_refl _, by omega, HD7.out.congr (fun j _ => by
              by_cases h : j < 1
              · rw [if_pos h, show j = 0 by omega]; rfl
              · rw [if_neg h]), HK7.out.congr (fun j _ => by
              by_cases h : j < 1
              · rw [if_pos h, show j = 0 by omega]; rfl
              · rw [if_neg h]), HG1.out, HG2.out, z0w, HB7.out, by omega⟩
          case round =>
            clear HD7 HK7 HG1 HG2 z0w HB7 HWO2
            obtain ⟨i, rfl, hi1, hi2, HDi, HKi, HG1i, HG2i, z0i, HBi, hgki⟩ := hrel
            by_cases hil : i < s.size
            · have hii : (i : Int) < (s.size : Int) := by omega
              have hi0 : (0 : Int) ≤ (i : Int) := by omega
              have hi3 : (i : Int) < (s.size : Int) + 1 := by omega
              obtain ⟨t, ht⟩ : ∃ t, t + i = s.size := ⟨s.size - i, by omega⟩
              have hsub : (s.size : Int) - (i : Int) = (t : Int) := by omega
              have ht0 : (0 : Int) ≤ (t : Int) := by omega
              have ht1 : (t : Int) < (s.size : Int) + 1 := by omega
              have qd := HDi.out.cell (i := i) (by omega)
              rw [if_neg (Nat.lt_irrefl i), decide_eq_true ⟨hi1, hil⟩, Bool.true_and] at qd
              have qk := HKi.out.cell (i := i) (by omega)
              have qb := HG1i.out.cell (i := i) (by omega)
              rw [ends_suf r.bf s i (by omega)] at qb
              have qa := HG2i.out.cell (i := t) (by omega)
              rw [show t = s.size - i by omega, ends_pre r.af hbks HBT.out i (by omega), show s.size - i = t by omega] at qa
              have hnd : foundF (rs.take (k + 1)) s i = (foundF (rs.take k) s i || (suffixF r.bf (s.extract 0 i) && prefixF r.af (s.extract i s.size))) := by rw [HTK.out, found_snoc]; rfl
              have hnk : decideF (rs.take (k + 1)) s i = if foundF (rs.take k) s i = true then decideF (rs.take k) s i else ((suffixF r.bf (s.extract 0 i) && prefixF r.af (s.extract i s.size)) && r.br) := by rw [HTK.out, decide_snoc]; rfl
              have hno := decide_none (rs.take k) s i
              cases hfd : foundF (rs.take k) s i with
              | true =>
                rw [hfd] at qd
                have hnew1 : (decide (0 < i ∧ i < s.size) && foundF (rs.take (k + 1)) s i) = (decide (0 < i ∧ i < s.size) && foundF (rs.take k) s i) := by rw [hnd, hfd]; rfl
                have hnew2 : (decide (0 < i ∧ i < s.size) && decideF (rs.take (k + 1)) s i) = (decide (0 < i ∧ i < s.size) && decideF (rs.take k) s i) := by rw [hnk, if_pos hfd]
                clear hnd hnk hno
                have HDN : Hid (wr.rowIs D 4 (s.size + 1) (fun j => .bool (if j < i + 1 then decide (0 < j ∧ j < s.size) && foundF (rs.take (k + 1)) s j else decide (0 < j ∧ j < s.size) && foundF (rs.take k) s j))) := HDi.out.congr fun j hj => by
                  by_cases h : j = i
                  · rw [if_neg (by omega), if_pos (by omega), h, hnew1]
                  · by_cases h2 : j < i
                    · rw [if_pos h2, if_pos (by omega)]
                    · rw [if_neg h2, if_neg (by omega)]
                have HKN : Hid (wr.rowIs K 4 (s.size + 1) (fun j => .bool (if j < i + 1 then decide (0 < j ∧ j < s.size) && decideF (rs.take (k + 1)) s j else decide (0 < j ∧ j < s.size) && decideF (rs.take k) s j))) := HKi.out.congr fun j hj => by
                  by_cases h : j = i
                  · rw [if_neg (by omega), if_pos (by omega), h, hnew2]
                  · by_cases h2 : j < i
                    · rw [if_pos h2, if_pos (by omega)]
                    · rw [if_neg h2, if_neg (by omega)]
                clear hnew1 hnew2
                go_wp2_with fail
                go_roundg (s.size + 1 - (i + 1))
                case measure => omega
                case rel => exact ⟨i + 1, by go_num, by omega, by omega, HDN.out, HKN.out, HG1i.out, HG2i.out, z0i, HBi.out, Nat.le_refl _⟩
              | false =>
                rw [hfd] at qd
                cases hsb : suffixF r.bf (s.extract 0 i) with
                | false =>
                  rw [hsb] at qb
                  have hnew1 : (decide (0 < i ∧ i < s.size) && foundF (rs.take (k + 1)) s i) = (decide (0 < i ∧ i < s.size) && foundF (rs.take k) s i) := by rw [hnd, hfd, hsb]; rfl
                  have hnew2 : (decide (0 < i ∧ i < s.size) && decideF (rs.take (k + 1)) s i) = (decide (0 < i ∧ i < s.size) && decideF (rs.take k) s i) := by rw [hnk, if_neg (by rw [hfd]; exact Bool.false_ne_true), hsb, hno hfd]; rfl
                  clear hnd hnk hno
                  have HDN : Hid (wr.rowIs D 4 (s.size + 1) (fun j => .bool (if j < i + 1 then decide (0 < j ∧ j < s.size) && foundF (rs.take (k + 1)) s j else decide (0 < j ∧ j < s.size) && foundF (rs.take k) s j))) := HDi.out.congr fun j hj => by
                    by_cases h : j = i
                    · rw [if_neg (by omega), if_pos (by omega), h, hnew1]
                    · by_cases h2 : j < i
                      · rw [if_pos h2, if_pos (by omega)]
                      · rw [if_neg h2, if_neg (by omega)]
                  have HKN : Hid (wr.rowIs K 4 (s.size + 1) (fun j => .bool (if j < i + 1 then decide (0 < j ∧ j < s.size) && decideF (rs.take (k + 1)) s j else decide (0 < j ∧ j < s.size) && decideF (rs.take k) s j))) := HKi.out.congr fun j hj => by
                    by_cases h : j = i
                    · rw [if_neg (by omega), if_pos (by omega), h, hnew2]
                    · by_cases h2 : j < i
                      · rw [if_pos h2, if_pos (by omega)]
                      · rw [if_neg h2, if_neg (by omega)]
                  clear hnew1 hnew2
                  go_wp2_with fail
                  go_roundg (s.size + 1 - (i + 1))
                  case measure => omega
                  case rel => exact ⟨i + 1, by go_num, by omega, by omega, HDN.out, HKN.out, HG1i.out, HG2i.out, z0i, HBi.out, Nat.le_refl _⟩
                | true =>
                  rw [hsb] at qb
                  cases hpa : prefixF r.af (s.extract i s.size) with
                  | false =>
                    rw [hpa] at qa
                    have hnew1 : (decide (0 < i ∧ i < s.size) && foundF (rs.take (k + 1)) s i) = (decide (0 < i ∧ i < s.size) && foundF (rs.take k) s i) := by rw [hnd, hfd, hsb, hpa]; rfl
                    have hnew2 : (decide (0 < i ∧ i < s.size) && decideF (rs.take (k + 1)) s i) = (decide (0 < i ∧ i < s.size) && decideF (rs.take k) s i) := by rw [hnk, if_neg (by rw [hfd]; exact Bool.false_ne_true), hsb, hpa, hno hfd]; rfl
                    clear hnd hnk hno
                    have HDN : Hid (wr.rowIs D 4 (s.size + 1) (fun j => .bool (if j < i + 1 then decide (0 < j ∧ j < s.size) && foundF (rs.take (k + 1)) s j else decide (0 < j ∧ j < s.size) && foundF (rs.take k) s j))) := HDi.out.congr fun j hj => by
                      by_cases h : j = i
                      · rw [if_neg (by omega), if_pos (by omega), h, hnew1]
                      · by_cases h2 : j < i
                        · rw [if_pos h2, if_pos (by omega)]
                        · rw [if_neg h2, if_neg (by omega)]
                    have HKN : Hid (wr.rowIs K 4 (s.size + 1) (fun j => .bool (if j < i + 1 then decide (0 < j ∧ j < s.size) && decideF (rs.take (k + 1)) s j else decide (0 < j ∧ j < s.size) && decideF (rs.take k) s j))) := HKi.out.congr fun j hj => by
                      by_cases h : j = i
                      · rw [if_neg (by omega), if_pos (by omega), h, hnew2]
                      · by_cases h2 : j < i
                        · rw [if_pos h2, if_pos (by omega)]
                        · rw [if_neg h2, if_neg (by omega)]
                    clear hnew1 hnew2
                    go_wp2_with fail
                    go_roundg (s.size + 1 - (i + 1))
                    case measure => omega
                    case rel => exact ⟨i + 1, by go_num, by omega, by omega, HDN.out, HKN.out, HG1i.out, HG2i.out, z0i, HBi.out, Nat.le_refl _⟩
                  | true =>
                    rw [hpa] at qa
                    have hnew1 : foundF (rs.take (k + 1)) s i = true := by rw [hnd, hfd, hsb, hpa]; rfl
                    have hnew2 : decideF (rs.take (k + 1)) s i = r.br := by rw [hnk, if_neg (by rw [hfd]; exact Bool.false_ne_true), hsb, hpa]; rfl
                    clear hnd hnk hno
                    have fd := HDi.out.frozen i
                    have fk := HKi.out.frozen i
                    have hne : ¬ D = K := by omega
                    have hne2 : ¬ K = D := by omega
                    have HD8 : Hid (((wr.drew.setCell ⟨D, i, none⟩ (.bool true)).setCell ⟨K, i, none⟩ (.bool r.br)).rowIs D 4 (s.size + 1) (fun j => .bool (if j < i + 1 then decide (0 < j ∧ j < s.size) && foundF (rs.take (k + 1)) s j else decide (0 < j ∧ j < s.size) && foundF (rs.take k) s j))) := ((HDi.out.drew.set i (.bool true)).of_block (Below.heap_setCell _ _ _ _ (show D ≠ K by omega))).congr fun j hj => by
                      by_cases h : j = i
                      · rw [if_pos h, if_pos (by omega), h, hnew1, decide_eq_true ⟨hi1, hil⟩]; rfl
                      · rw [if_neg h]
                        by_cases h2 : j < i
                        · rw [if_pos h2, if_pos (by omega)]
                        · rw [if_neg h2, if_neg (by omega)]
                    have HK8 : Hid (((wr.drew.setCell ⟨D, i, none⟩ (.bool true)).setCell ⟨K, i, none⟩ (.bool r.br)).rowIs K 4 (s.size + 1) (fun j => .bool (if j < i + 1 then decide (0 < j ∧ j < s.size) && decideF (rs.take (k + 1)) s j else decide (0 < j ∧ j < s.size) && decideF (rs.take k) s j))) := ((HKi.out.drew.of_block (Below.heap_setCell _ _ _ _ (show K ≠ D by omega))).set i (.bool r.br)).congr fun j hj => by
                      by_cases h : j = i
                      · rw [if_pos h, if_pos (by omega), h, hnew2, decide_eq_true ⟨hi1, hil⟩]; rfl
                      · rw [if_neg h]
                        by_cases h2 : j < i
                        · rw [if_pos h2, if_pos (by omega)]
                        · rw [if_neg h2, if_neg (by omega)]
                    have HG18 : Hid (((wr.drew.setCell ⟨D, i, none⟩ (.bool true)).setCell ⟨K, i, none⟩ (.bool r.br)).rowIs g1 4 (s.size + 1) (fun j => .bool (reachF s r.bf allF j))) := (HG1i.out.drew.of_block (Below.heap_setCell _ _ _ _ (show g1 ≠ D by omega))).of_block (Below.heap_setCell _ _ _ _ (show g1 ≠ K by omega))
                    have HG28 : Hid (((wr.drew.setCell ⟨D, i, none⟩ (.bool true)).setCell ⟨K, i, none⟩ (.bool r.br)).rowIs g2 4 (s.size + 1) (fun j => .bool (reachF bk r.af.reverse allF j))) := (HG2i.out.drew.of_block (Below.heap_setCell _ _ _ _ (show g2 ≠ D by omega))).of_block (Below.heap_setCell _ _ _ _ (show g2 ≠ K by omega))
                    have HZ8 : Hid (((wr.drew.setCell ⟨D, i, none⟩ (.bool true)).setCell ⟨K, i, none⟩ (.bool r.br)).cell? ⟨q, 0, none⟩ = some (.bool r.br)) := by
                      show _ = _
                      rw [World.cell?_of_block (w := wr.drew.setCell ⟨D, i, none⟩ (.bool true)) (Below.heap_setCell _ _ _ _ (show q ≠ K by omega)), World.cell?_of_block (w := wr.drew) (Below.heap_setCell _ _ _ _ (show q ≠ D by omega))]
                      exact z0i
                    have HB8 : Hid (Below w.heap.size w ((wr.drew.setCell ⟨D, i, none⟩ (.bool true)).setCell ⟨K, i, none⟩ (.bool r.br))) := (HBi.out.drew.setCell (p := ⟨D, i, none⟩) (show w.heap.size ≤ D by omega) _).setCell (p := ⟨K, i, none⟩) (show w.heap.size ≤ K by omega) _
                    go_upto_region 14 with fail
                    go_region
                    go_wp2_with fail
                    go_roundg (s.size + 1 - (i + 1))
                    case measure => omega
                    case rel => exact ⟨i + 1, by go_num, by omega, by omega, HD8.out, HK8.out, HG18.out, HG28.out, HZ8.out, HB8.out, Nat.le_refl _⟩
            · have hge : s.size ≤ i := by omega
              have hii : ¬ (i : Int) < (s.size : Int) := by omega
              have HDE : Hid (wr.rowIs D 4 (s.size + 1) (fun j => .bool (decide (0 < j ∧ j < s.size) && foundF (rs.take (k + 1)) s j))) := HDi.out.congr fun j hj => by
                by_cases h : j < i
                · rw [if_pos h]
                · rw [if_neg h, decide_eq_false (by omega)]; rfl
              have HKE : Hid (wr.rowIs K 4 (s.size + 1) (fun j => .bool (decide (0 < j ∧ j < s.size) && decideF (rs.take (k + 1)) s j))) := HKi.out.congr fun j hj => by
                by_cases h : j < i
                · rw [if_pos h]
                · rw [if_neg h, decide_eq_false (by omega)]; rfl
              go_wp2_with fail
              go_roundg (xs.length - (k + 1))
              case measure => omega
              case rel => exact ⟨k + 1, by go_num, by omega, HDE.out, HKE.out, HBi.out, Nat.le_refl _⟩
        · simp only [Act.put, List.setIfInBounds_toArray, List.set_cons_zero, List.set_cons_succ]
          refine wpAny_call 3 (some 38) (by kernel_rfl) rfl rfl (by kernel_rfl) 50 (#[.slice uA un uc, .string s]) (by go_simp) (ends_any r.bf s _ wr4.drew HU4.out (by omega) hbl0) ?_
          rintro e w5 ⟨g1, rfl, hg1, hr1, hb5⟩
          refine ⟨_, rfl, ?_⟩
          have HL3 : Hid (∀ w', w'.heap = w5.heap → (Instr.loadAt 28 (.pointer (some ⟨q, 2, none⟩))).run Tryd.prog w' = .ok (.slice tA tn tc) w') := fun w' hw' => ld_slice (by rw [World.cell?_of_block (w := w5) (by rw [hw'])]; exact (hb5.cell (p := ⟨q, 2, none⟩) hq4).trans z2)
          change wpAny _ _ _ _ _ _ (Act.put _ (some 38) _) _
          simp only [Act.put, List.setIfInBounds_toArray, List.set_cons_zero, List.set_cons_succ]
          refine wpAny_call 6 (some 41) (by kernel_rfl) rfl rfl (by kernel_rfl) 51 (#[.slice tA tn tc]) (by go_simp) (revp_any r.af _ w5 ((show RdE atC 34 wr4.drew _ _ from HT4.out).below hb5 (Nat.le_refl _)) hal0) ?_
          rintro e w6 ⟨v6, rfl, hr6, hb6⟩
          refine ⟨_, rfl, ?_⟩
          change wpAny _ _ _ _ _ _ (Act.put _ (some 41) _) _
          simp only [Act.put, List.setIfInBounds_toArray, List.set_cons_zero, List.set_cons_succ]
          refine wpAny_call 8 (some 43) (by kernel_rfl) rfl rfl (by kernel_rfl) 50 (#[v6, .string bk]) (by go_simp) (ends_any r.af.reverse bk v6 w6 hr6 (by omega) (by simp; omega)) ?_
          rintro e w7 ⟨g2, rfl, hg2, hr2, hb7⟩
          refine ⟨_, rfl, ?_⟩
          rw [hbks]
          change wpAny _ _ _ _ _ _ (Act.put _ (some 43) _) _
          simp only [Act.put, List.setIfInBounds_toArray, List.set_cons_zero, List.set_cons_succ]
          refine wpAny_at (i := 9) (v := .slice (some ⟨g1, 0, none⟩) (s.size + 1) (s.size + 1)) (some 10) rfl rfl (by kernel_rfl) (by kernel_rfl) (by kernel_rfl) (fun _ _ _ h => h) (by kernel_rfl) (fun _ => ex_assign _ _ rfl (by kernel_rfl)) ?_
          simp only [Act.put, List.setIfInBounds_toArray, List.set_cons_zero, List.set_cons_succ]
          refine wpAny_at (i := 10) (v := .slice (some ⟨g2, 0, none⟩) (s.size + 1) (s.size + 1)) (some 11) rfl rfl (by kernel_rfl) (by kernel_rfl) (by kernel_rfl) (fun _ _ _ h => h) (by kernel_rfl) (fun _ => ex_assign _ _ rfl (by kernel_rfl)) ?_
          simp only [Act.put, List.setIfInBounds_toArray, List.set_cons_zero, List.set_cons_succ]
          refine wpAny_done (by kernel_rfl) ?_ _
          rw [hbks] at hr2
          have HG1 : Hid (w7.rowIs g1 4 (s.size + 1) (fun j => .bool (reachF s r.bf allF j))) := (hr1.of_block (hb6.block _ hr1.lt)).of_block (hb7.block _ (hr1.of_block (hb6.block _ hr1.lt)).lt)
          have HG2 : Hid (w7.rowIs g2 4 (s.size + 1) (fun j => .bool (reachF bk r.af.reverse allF j))) := hr2
          have HBq : Hid (Below wr4.heap.size wr4 w7) := ((below_drewN (Below.refl _ wr4) 1).trans hb5).trans ((hb6.trans (hb7.mono hb6.size)).mono hb5.size)
          have HD7 := Lib.hid (HD4.out.of_block (HBq.out.block _ HD4.out.lt))
          have HK7 := Lib.hid (HK4.out.of_block (HBq.out.block _ HK4.out.lt))
          have HB7 := Lib.hid (HB4.out.trans (HBq.out.mono HB4.out.size))
          have z0w := (HBq.out.cell (p := ⟨q, 0, none⟩) hq4).trans z0
          have hg1q : q < g1 := Nat.lt_of_lt_of_le hq4 hg1
          have hg2q : q < g2 := Nat.lt_of_lt_of_le hq4 (Nat.le_trans (Nat.le_trans hb5.size hb6.size) hg2)
          clear hr1 hr2 hb5 hb6 hb7 HL3 hr6 HBq z0 z1 z2 HL1 HL2 HD4 HK4 HB4 HU4 HT4 HQ hq4
          go_wp2_with fail
          obtain ⟨wo2, HWO2⟩ : ∃ wo, Hid (wo = w7) := ⟨w7, rfl⟩
          go_loopg [12] (s.size + 1) (fun gk iv wr => ∃ i : Nat, iv = .int .i64 i ∧ 1 ≤ i ∧ i ≤ s.size + 1 ∧ Hid (wr.rowIs D 4 (s.size + 1) (fun j => .bool (if j < i then decide (0 < j ∧ j < s.size) && foundF (rs.take (k + 1)) s j else decide (0 < j ∧ j < s.size) && foundF (rs.take k) s j))) ∧ Hid (wr.rowIs K 4 (s.size + 1) (fun j => .bool (if j < i then decide (0 < j ∧ j < s.size) && decideF (rs.take (k + 1)) s j else decide (0 < j ∧ j < s.size) && decideF (rs.take k) s j))) ∧ Hid (wr.rowIs g1 4 (s.size + 1) (fun j => .bool (reachF s r.bf allF j))) ∧ Hid (wr.rowIs g2 4 (s.size + 1) (fun j => .bool (reachF bk r.af.reverse allF j))) ∧ wr.cell? ⟨q, 0, none⟩ = some (.bool r.br) ∧ Hid (Below w.heap.size w wr) ∧ s.size + 1 - i ≤ gk)
          case atStart => exact ⟨1, rfl, Nat.le_refl _, by omega, HD7.out.congr (fun j _ => by
              by_cases h : j < 1
              · rw [if_pos h, show j = 0 by omega]; rfl
              · rw [if_neg h]), HK7.out.congr (fun j _ => by
              by_cases h : j < 1
              · rw [if_pos h, show j = 0 by omega]; rfl
              · rw [if_neg h]), HG1.out, HG2.out, z0w, HB7.out, by omega⟩
          case round =>
            clear HD7 HK7 HG1 HG2 z0w HB7 HWO2
            obtain ⟨i, rfl, hi1, hi2, HDi, HKi, HG1i, HG2i, z0i, HBi, hgki⟩ := hrel
            by_cases hil : i < s.size
            · have hii : (i : Int) < (s.size : Int) := by omega
              have hi0 : (0 : Int) ≤ (i : Int) := by omega
              have hi3 : (i : Int) < (s.size : Int) + 1 := by omega
              obtain ⟨t, ht⟩ : ∃ t, t + i = s.size := ⟨s.size - i, by omega⟩
              have hsub : (s.size : Int) - (i : Int) = (t : Int) := by omega
              have ht0 : (0 : Int) ≤ (t : Int) := by omega
              have ht1 : (t : Int) < (s.size : Int) + 1 := by omega
              have qd := HDi.out.cell (i := i) (by omega)
              rw [if_neg (Nat.lt_irrefl i), decide_eq_true ⟨hi1, hil⟩, Bool.true_and] at qd
              have qk := HKi.out.cell (i := i) (by omega)
              have qb := HG1i.out.cell (i := i) (by omega)
              rw [ends_suf r.bf s i (by omega)] at qb
              have qa := HG2i.out.cell (i := t) (by omega)
              rw [show t = s.size - i by omega, ends_pre r.af hbks HBT.out i (by omega), show s.size - i = t by omega] at qa
              have hnd : foundF (rs.take (k + 1)) s i = (foundF (rs.take k) s i || (suffixF r.bf (s.extract 0 i) && prefixF r.af (s.extract i s.size))) := by rw [HTK.out, found_snoc]; rfl
              have hnk : decideF (rs.take (k + 1)) s i = if foundF (rs.take k) s i = true then decideF (rs.take k) s i else ((suffixF r.bf (s.extract 0 i) && prefixF r.af (s.extract i s.size)) && r.br) := by rw [HTK.out, decide_snoc]; rfl
              have hno := decide_none (rs.take k) s i
              cases hfd : foundF (rs.take k) s i with
              | true =>
                rw [hfd] at qd
                have hnew1 : (decide (0 < i ∧ i < s.size) && foundF (rs.take (k + 1)) s i) = (decide (0 < i ∧ i < s.size) && foundF (rs.take k) s i) := by rw [hnd, hfd]; rfl
                have hnew2 : (decide (0 < i ∧ i < s.size) && decideF (rs.take (k + 1)) s i) = (decide (0 < i ∧ i < s.size) && decideF (rs.take k) s i) := by rw [hnk, if_pos hfd]
                clear hnd hnk hno
                have HDN : Hid (wr.rowIs D 4 (s.size + 1) (fun j => .bool (if j < i + 1 then decide (0 < j ∧ j < s.size) && foundF (rs.take (k + 1)) s j else decide (0 < j ∧ j < s.size) && foundF (rs.take k) s j))) := HDi.out.congr fun j hj => by
                  by_cases h : j = i
                  · rw [if_neg (by omega), if_pos (by omega), h, hnew1]
                  · by_cases h2 : j < i
                    · rw [if_pos h2, if_pos (by omega)]
                    · rw [if_neg h2, if_neg (by omega)]
                have HKN : Hid (wr.rowIs K 4 (s.size + 1) (fun j => .bool (if j < i + 1 then decide (0 < j ∧ j < s.size) && decideF (rs.take (k + 1)) s j else decide (0 < j ∧ j < s.size) && decideF (rs.take k) s j))) := HKi.out.congr fun j hj => by
                  by_cases h : j = i
                  · rw [if_neg (by omega), if_pos (by omega), h, hnew2]
                  · by_cases h2 : j < i
                    · rw [if_pos h2, if_pos (by omega)]
                    · rw [if_neg h2, if_neg (by omega)]
                clear hnew1 hnew2
                go_wp2_with fail
                go_roundg (s.size + 1 - (i + 1))
                case measure => omega
                case rel => exact ⟨i + 1, by go_num, by omega, by omega, HDN.out, HKN.out, HG1i.out, HG2i.out, z0i, HBi.out, Nat.le_refl _⟩
              | false =>
                rw [hfd] at qd
                cases hsb : suffixF r.bf (s.extract 0 i) with
                | false =>
                  rw [hsb] at qb
                  have hnew1 : (decide (0 < i ∧ i < s.size) && foundF (rs.take (k + 1)) s i) = (decide (0 < i ∧ i < s.size) && foundF (rs.take k) s i) := by rw [hnd, hfd, hsb]; rfl
                  have hnew2 : (decide (0 < i ∧ i < s.size) && decideF (rs.take (k + 1)) s i) = (decide (0 < i ∧ i < s.size) && decideF (rs.take k) s i) := by rw [hnk, if_neg (by rw [hfd]; exact Bool.false_ne_true), hsb, hno hfd]; rfl
                  clear hnd hnk hno
                  have HDN : Hid (wr.rowIs D 4 (s.size + 1) (fun j => .bool (if j < i + 1 then decide (0 < j ∧ j < s.size) && foundF (rs.take (k + 1)) s j else decide (0 < j ∧ j < s.size) && foundF (rs.take k) s j))) := HDi.out.congr fun j hj => by
                    by_cases h : j = i
                    · rw [if_neg (by omega), if_pos (by omega), h, hnew1]
                    · by_cases h2 : j < i
                      · rw [if_pos h2, if_pos (by omega)]
                      · rw [if_neg h2, if_neg (by omega)]
                  have HKN : Hid (wr.rowIs K 4 (s.size + 1) (fun j => .bool (if j < i + 1 then decide (0 < j ∧ j < s.size) && decideF (rs.take (k + 1)) s j else decide (0 < j ∧ j < s.size) && decideF (rs.take k) s j))) := HKi.out.congr fun j hj => by
                    by_cases h : j = i
                    · rw [if_neg (by omega), if_pos (by omega), h, hnew2]
                    · by_cases h2 : j < i
                      · rw [if_pos h2, if_pos (by omega)]
                      · rw [if_neg h2, if_neg (by omega)]
                  clear hnew1 hnew2
                  go_wp2_with fail
                  go_roundg (s.size + 1 - (i + 1))
                  case measure => omega
                  case rel => exact ⟨i + 1, by go_num, by omega, by omega, HDN.out, HKN.out, HG1i.out, HG2i.out, z0i, HBi.out, Nat.le_refl _⟩
                | true =>
                  rw [hsb] at qb
                  cases hpa : prefixF r.af (s.extract i s.size) with
                  | false =>
                    rw [hpa] at qa
                    have hnew1 : (decide (0 < i ∧ i < s.size) && foundF (rs.take (k + 1)) s i) = (decide (0 < i ∧ i < s.size) && foundF (rs.take k) s i) := by rw [hnd, hfd, hsb, hpa]; rfl
                    have hnew2 : (decide (0 < i ∧ i < s.size) && decideF (rs.take (k + 1)) s i) = (decide (0 < i ∧ i < s.size) && decideF (rs.take k) s i) := by rw [hnk, if_neg (by rw [hfd]; exact Bool.false_ne_true), hsb, hpa, hno hfd]; rfl
                    clear hnd hnk hno
                    have HDN : Hid (wr.rowIs D 4 (s.size + 1) (fun j => .bool (if j < i + 1 then decide (0 < j ∧ j < s.size) && foundF (rs.take (k + 1)) s j else decide (0 < j ∧ j < s.size) && foundF (rs.take k) s j))) := HDi.out.congr fun j hj => by
                      by_cases h : j = i
                      · rw [if_neg (by omega), if_pos (by omega), h, hnew1]
                      · by_cases h2 : j < i
                        · rw [if_pos h2, if_pos (by omega)]
                        · rw [if_neg h2, if_neg (by omega)]
                    have HKN : Hid (wr.rowIs K 4 (s.size + 1) (fun j => .bool (if j < i + 1 then decide (0 < j ∧ j < s.size) && decideF (rs.take (k + 1)) s j else decide (0 < j ∧ j < s.size) && decideF (rs.take k) s j))) := HKi.out.congr fun j hj => by
                      by_cases h : j = i
                      · rw [if_neg (by omega), if_pos (by omega), h, hnew2]
                      · by_cases h2 : j < i
                        · rw [if_pos h2, if_pos (by omega)]
                        · rw [if_neg h2, if_neg (by omega)]
                    clear hnew1 hnew2
                    go_wp2_with fail
                    go_roundg (s.size + 1 - (i + 1))
                    case measure => omega
                    case rel => exact ⟨i + 1, by go_num, by omega, by omega, HDN.out, HKN.out, HG1i.out, HG2i.out, z0i, HBi.out, Nat.le_refl _⟩
                  | true =>
                    rw [hpa] at qa
                    have hnew1 : foundF (rs.take (k + 1)) s i = true := by rw [hnd, hfd, hsb, hpa]; rfl
                    have hnew2 : decideF (rs.take (k + 1)) s i = r.br := by rw [hnk, if_neg (by rw [hfd]; exact Bool.false_ne_true), hsb, hpa]; rfl
                    clear hnd hnk hno
                    have fd := HDi.out.frozen i
                    have fk := HKi.out.frozen i
                    have hne : ¬ D = K := by omega
                    have hne2 : ¬ K = D := by omega
                    have HD8 : Hid (((wr.drew.setCell ⟨D, i, none⟩ (.bool true)).setCell ⟨K, i, none⟩ (.bool r.br)).rowIs D 4 (s.size + 1) (fun j => .bool (if j < i + 1 then decide (0 < j ∧ j < s.size) && foundF (rs.take (k + 1)) s j else decide (0 < j ∧ j < s.size) && foundF (rs.take k) s j))) := ((HDi.out.drew.set i (.bool true)).of_block (Below.heap_setCell _ _ _ _ (show D ≠ K by omega))).congr fun j hj => by
                      by_cases h : j = i
                      · rw [if_pos h, if_pos (by omega), h, hnew1, decide_eq_true ⟨hi1, hil⟩]; rfl
                      · rw [if_neg h]
                        by_cases h2 : j < i
                        · rw [if_pos h2, if_pos (by omega)]
                        · rw [if_neg h2, if_neg (by omega)]
                    have HK8 : Hid (((wr.drew.setCell ⟨D, i, none⟩ (.bool true)).setCell ⟨K, i, none⟩ (.bool r.br)).rowIs K 4 (s.size + 1) (fun j => .bool (if j < i + 1 then decide (0 < j ∧ j < s.size) && decideF (rs.take (k + 1)) s j else decide (0 < j ∧ j < s.size) && decideF (rs.take k) s j))) := ((HKi.out.drew.of_block (Below.heap_setCell _ _ _ _ (show K ≠ D by omega))).set i (.bool r.br)).congr fun j hj => by
                      by_cases h : j = i
                      · rw [if_pos h, if_pos (by omega), h, hnew2, decide_eq_true ⟨hi1, hil⟩]; rfl
                      · rw [if_neg h]
                        by_cases h2 : j < i
                        · rw [if_pos h2, if_pos (by omega)]
                        · rw [if_neg h2, if_neg (by omega)]
                    have HG18 : Hid (((wr.drew.setCell ⟨D, i, none⟩ (.bool true)).setCell ⟨K, i, none⟩ (.bool r.br)).rowIs g1 4 (s.size + 1) (fun j => .bool (reachF s r.bf allF j))) := (HG1i.out.drew.of_block (Below.heap_setCell _ _ _ _ (show g1 ≠ D by omega))).of_block (Below.heap_setCell _ _ _ _ (show g1 ≠ K by omega))
                    have HG28 : Hid (((wr.drew.setCell ⟨D, i, none⟩ (.bool true)).setCell ⟨K, i, none⟩ (.bool r.br)).rowIs g2 4 (s.size + 1) (fun j => .bool (reachF bk r.af.reverse allF j))) := (HG2i.out.drew.of_block (Below.heap_setCell _ _ _ _ (show g2 ≠ D by omega))).of_block (Below.heap_setCell _ _ _ _ (show g2 ≠ K by omega))
                    have HZ8 : Hid (((wr.drew.setCell ⟨D, i, none⟩ (.bool true)).setCell ⟨K, i, none⟩ (.bool r.br)).cell? ⟨q, 0, none⟩ = some (.bool r.br)) := by
                      show _ = _
                      rw [World.cell?_of_block (w := wr.drew.setCell ⟨D, i, none⟩ (.bool true)) (Below.heap_setCell _ _ _ _ (show q ≠ K by omega)), World.cell?_of_block (w := wr.drew) (Below.heap_setCell _ _ _ _ (show q ≠ D by omega))]
                      exact z0i
                    have HB8 : Hid (Below w.heap.size w ((wr.drew.setCell ⟨D, i, none⟩ (.bool true)).setCell ⟨K, i, none⟩ (.bool r.br))) := (HBi.out.drew.setCell (p := ⟨D, i, none⟩) (show w.heap.size ≤ D by omega) _).setCell (p := ⟨K, i, none⟩) (show w.heap.size ≤ K by omega) _
                    go_upto_region 14 with fail
                    go_region
                    go_wp2_with fail
                    go_roundg (s.size + 1 - (i + 1))
                    case measure => omega
                    case rel => exact ⟨i + 1, by go_num, by omega, by omega, HD8.out, HK8.out, HG18.out, HG28.out, HZ8.out, HB8.out, Nat.le_refl _⟩
            · have hge : s.size ≤ i := by omega
              have hii : ¬ (i : Int) < (s.size : Int) := by omega
              have HDE : Hid (wr.rowIs D 4 (s.size + 1) (fun j => .bool (decide (0 < j ∧ j < s.size) && foundF (rs.take (k + 1)) s j))) := HDi.out.congr fun j hj => by
                by_cases h : j < i
                · rw [if_pos h]
                · rw [if_neg h, decide_eq_false (by omega)]; rfl
              have HKE : Hid (wr.rowIs K 4 (s.size + 1) (fun j => .bool (decide (0 < j ∧ j < s.size) && decideF (rs.take (k + 1)) s j))) := HKi.out.congr fun j hj => by
                by_cases h : j < i
                · rw [if_pos h]
                · rw [if_neg h, decide_eq_false (by omega)]; rfl
              go_wp2_with fail
              go_roundg (xs.length - (k + 1))
              case measure => omega
              case rel => exact ⟨k + 1, by go_num, by omega, HDE.out, HKE.out, HBi.out, Nat.le_refl _⟩
      · simp only [Act.put, List.setIfInBounds_toArray, List.set_cons_zero, List.set_cons_succ]
        refine wpAny_val 1 (some 36) (.slice uA un uc) (by kernel_rfl) rfl rfl (by kernel_rfl) (ex_load 28 _ (.pointer (some ⟨q, 1, none⟩)) _ rfl (by kernel_rfl) (HL1.out)) ?_
        simp only [Act.put, List.setIfInBounds_toArray, List.set_cons_zero, List.set_cons_succ]
        refine wpAny_call 3 (some 38) (by kernel_rfl) rfl rfl (by kernel_rfl) 50 (#[.slice uA un uc, .string s]) (by go_simp) (ends_any r.bf s _ wr4.drew HU4.out (by omega) hbl0) ?_
        rintro e w5 ⟨g1, rfl, hg1, hr1, hb5⟩
        refine ⟨_, rfl, ?_⟩
        have HL3 : Hid (∀ w', w'.heap = w5.heap → (Instr.loadAt 28 (.pointer (some ⟨q, 2, none⟩))).run Tryd.prog w' = .ok (.slice tA tn tc) w') := fun w' hw' => ld_slice (by rw [World.cell?_of_block (w := w5) (by rw [hw'])]; exact (hb5.cell (p := ⟨q, 2, none⟩) hq4).trans z2)
        change wpAny _ _ _ _ _ _ (Act.put _ (some 38) _) _
        simp only [Act.put, List.setIfInBounds_toArray, List.set_cons_zero, List.set_cons_succ]
        refine wpAny_call 6 (some 41) (by kernel_rfl) rfl rfl (by kernel_rfl) 51 (#[.slice tA tn tc]) (by go_simp) (revp_any r.af _ w5 ((show RdE atC 34 wr4.drew _ _ from HT4.out).below hb5 (Nat.le_refl _)) hal0) ?_
        rintro e w6 ⟨v6, rfl, hr6, hb6⟩
        refine ⟨_, rfl, ?_⟩
        change wpAny _ _ _ _ _ _ (Act.put _ (some 41) _) _
        simp only [Act.put, List.setIfInBounds_toArray, List.set_cons_zero, List.set_cons_succ]
        refine wpAny_call 8 (some 43) (by kernel_rfl) rfl rfl (by kernel_rfl) 50 (#[v6, .string bk]) (by go_simp) (ends_any r.af.reverse bk v6 w6 hr6 (by omega) (by simp; omega)) ?_
        rintro e w7 ⟨g2, rfl, hg2, hr2, hb7⟩
        refine ⟨_, rfl, ?_⟩
        rw [hbks]
        change wpAny _ _ _ _ _ _ (Act.put _ (some 43) _) _
        simp only [Act.put, List.setIfInBounds_toArray, List.set_cons_zero, List.set_cons_succ]
        refine wpAny_at (i := 9) (v := .slice (some ⟨g1, 0, none⟩) (s.size + 1) (s.size + 1)) (some 10) rfl rfl (by kernel_rfl) (by kernel_rfl) (by kernel_rfl) (fun _ _ _ h => h) (by kernel_rfl) (fun _ => ex_assign _ _ rfl (by kernel_rfl)) ?_
        simp only [Act.put, List.setIfInBounds_toArray, List.set_cons_zero, List.set_cons_succ]
        refine wpAny_at (i := 10) (v := .slice (some ⟨g2, 0, none⟩) (s.size + 1) (s.size + 1)) (some 11) rfl rfl (by kernel_rfl) (by kernel_rfl) (by kernel_rfl) (fun _ _ _ h => h) (by kernel_rfl) (fun _ => ex_assign _ _ rfl (by kernel_rfl)) ?_
        simp only [Act.put, List.setIfInBounds_toArray, List.set_cons_zero, List.set_cons_succ]
        refine wpAny_done (by kernel_rfl) ?_ _
        rw [hbks] at hr2
        have HG1 : Hid (w7.rowIs g1 4 (s.size + 1) (fun j => .bool (reachF s r.bf allF j))) := (hr1.of_block (hb6.block _ hr1.lt)).of_block (hb7.block _ (hr1.of_block (hb6.block _ hr1.lt)).lt)
        have HG2 : Hid (w7.rowIs g2 4 (s.size + 1) (fun j => .bool (reachF bk r.af.reverse allF j))) := hr2
        have HBq : Hid (Below wr4.heap.size wr4 w7) := ((below_drewN (Below.refl _ wr4) 1).trans hb5).trans ((hb6.trans (hb7.mono hb6.size)).mono hb5.size)
        have HD7 := Lib.hid (HD4.out.of_block (HBq.out.block _ HD4.out.lt))
        have HK7 := Lib.hid (HK4.out.of_block (HBq.out.block _ HK4.out.lt))
        have HB7 := Lib.hid (HB4.out.trans (HBq.out.mono HB4.out.size))
        have z0w := (HBq.out.cell (p := ⟨q, 0, none⟩) hq4).trans z0
        have hg1q : q < g1 := Nat.lt_of_lt_of_le hq4 hg1
        have hg2q : q < g2 := Nat.lt_of_lt_of_le hq4 (Nat.le_trans (Nat.le_trans hb5.size hb6.size) hg2)
        clear hr1 hr2 hb5 hb6 hb7 HL3 hr6 HBq z0 z1 z2 HL1 HL2 HD4 HK4 HB4 HU4 HT4 HQ hq4
        go_wp2_with fail
        obtain ⟨wo2, HWO2⟩ : ∃ wo, Hid (wo = w7) := ⟨w7, rfl⟩
        go_loopg [12] (s.size + 1) (fun gk iv wr => ∃ i : Nat, iv = .int .i64 i ∧ 1 ≤ i ∧ i ≤ s.size + 1 ∧ Hid (wr.rowIs D 4 (s.size + 1) (fun j => .bool (if j < i then decide (0 < j ∧ j < s.size) && foundF (rs.take (k + 1)) s j else decide (0 < j ∧ j < s.size) && foundF (rs.take k) s j))) ∧ Hid (wr.rowIs K 4 (s.size + 1) (fun j => .bool (if j < i then decide (0 < j ∧ j < s.size) && decideF (rs.take (k + 1)) s j else decide (0 < j ∧ j < s.size) && decideF (rs.take k) s j))) ∧ Hid (wr.rowIs g1 4 (s.size + 1) (fun j => .bool (reachF s r.bf allF j))) ∧ Hid (wr.rowIs g2 4 (s.size + 1) (fun j => .bool (reachF bk r.af.reverse allF j))) ∧ wr.cell? ⟨q, 0, none⟩ = some (.bool r.br) ∧ Hid (Below w.heap.size w wr) ∧ s.size + 1 - i ≤ gk)
        case atStart => exact ⟨1, rfl, Nat.le_refl _, by omega, HD7.out.congr (fun j _ => by
            by_cases h : j < 1
            · rw [if_pos h, show j = 0 by omega]; rfl
            · rw [if_neg h]), HK7.out.congr (fun j _ => by
            by_cases h : j < 1
            · rw [if_pos h, show j = 0 by omega]; rfl
            · rw [if_neg h]), HG1.out, HG2.out, z0w, HB7.out, by omega⟩
        case round =>
          clear HD7 HK7 HG1 HG2 z0w HB7 HWO2
          obtain ⟨i, rfl, hi1, hi2, HDi, HKi, HG1i, HG2i, z0i, HBi, hgki⟩ := hrel
          by_cases hil : i < s.size
          · have hii : (i : Int) < (s.size : Int) := by omega
            have hi0 : (0 : Int) ≤ (i : Int) := by omega
            have hi3 : (i : Int) < (s.size : Int) + 1 := by omega
            obtain ⟨t, ht⟩ : ∃ t, t + i = s.size := ⟨s.size - i, by omega⟩
            have hsub : (s.size : Int) - (i : Int) = (t : Int) := by omega
            have ht0 : (0 : Int) ≤ (t : Int) := by omega
            have ht1 : (t : Int) < (s.size : Int) + 1 := by omega
            have qd := HDi.out.cell (i := i) (by omega)
            rw [if_neg (Nat.lt_irrefl i), decide_eq_true ⟨hi1, hil⟩, Bool.true_and] at qd
            have qk := HKi.out.cell (i := i) (by omega)
            have qb := HG1i.out.cell (i := i) (by omega)
            rw [ends_suf r.bf s i (by omega)] at qb
            have qa := HG2i.out.cell (i := t) (by omega)
            rw [show t = s.size - i by omega, ends_pre r.af hbks HBT.out i (by omega), show s.size - i = t by omega] at qa
            have hnd : foundF (rs.take (k + 1)) s i = (foundF (rs.take k) s i || (suffixF r.bf (s.extract 0 i) && prefixF r.af (s.extract i s.size))) := by rw [HTK.out, found_snoc]; rfl
            have hnk : decideF (rs.take (k + 1)) s i = if foundF (rs.take k) s i = true then decideF (rs.take k) s i else ((suffixF r.bf (s.extract 0 i) && prefixF r.af (s.extract i s.size)) && r.br) := by rw [HTK.out, decide_snoc]; rfl
            have hno := decide_none (rs.take k) s i
            cases hfd : foundF (rs.take k) s i with
            | true =>
              rw [hfd] at qd
              have hnew1 : (decide (0 < i ∧ i < s.size) && foundF (rs.take (k + 1)) s i) = (decide (0 < i ∧ i < s.size) && foundF (rs.take k) s i) := by rw [hnd, hfd]; rfl
              have hnew2 : (decide (0 < i ∧ i < s.size) && decideF (rs.take (k + 1)) s i) = (decide (0 < i ∧ i < s.size) && decideF (rs.take k) s i) := by rw [hnk, if_pos hfd]
              clear hnd hnk hno
              have HDN : Hid (wr.rowIs D 4 (s.size + 1) (fun j => .bool (if j < i + 1 then decide (0 < j ∧ j < s.size) && foundF (rs.take (k + 1)) s j else decide (0 < j ∧ j < s.size) && foundF (rs.take k) s j))) := HDi.out.congr fun j hj => by
                by_cases h : j = i
                · rw [if_neg (by omega), if_pos (by omega), h, hnew1]
                · by_cases h2 : j < i
                  · rw [if_pos h2, if_pos (by omega)]
                  · rw [if_neg h2, if_neg (by omega)]
              have HKN : Hid (wr.rowIs K 4 (s.size + 1) (fun j => .bool (if j < i + 1 then decide (0 < j ∧ j < s.size) && decideF (rs.take (k + 1)) s j else decide (0 < j ∧ j < s.size) && decideF (rs.take k) s j))) := HKi.out.congr fun j hj => by
                by_cases h : j = i
                · rw [if_neg (by omega), if_pos (by omega), h, hnew2]
                · by_cases h2 : j < i
                  · rw [if_pos h2, if_pos (by omega)]
                  · rw [if_neg h2, if_neg (by omega)]
              clear hnew1 hnew2
              go_wp2_with fail
              go_roundg (s.size + 1 - (i + 1))
              case measure => omega
              case rel => exact ⟨i + 1, by go_num, by omega, by omega, HDN.out, HKN.out, HG1i.out, HG2i.out, z0i, HBi.out, Nat.le_refl _⟩
            | false =>
              rw [hfd] at qd
              cases hsb : suffixF r.bf (s.extract 0 i) with
              | false =>
                rw [hsb] at qb
                have hnew1 : (decide (0 < i ∧ i < s.size) && foundF (rs.take (k + 1)) s i) = (decide (0 < i ∧ i < s.size) && foundF (rs.take k) s i) := by rw [hnd, hfd, hsb]; rfl
                have hnew2 : (decide (0 < i ∧ i < s.size) && decideF (rs.take (k + 1)) s i) = (decide (0 < i ∧ i < s.size) && decideF (rs.take k) s i) := by rw [hnk, if_neg (by rw [hfd]; exact Bool.false_ne_true), hsb, hno hfd]; rfl
                clear hnd hnk hno
                have HDN : Hid (wr.rowIs D 4 (s.size + 1) (fun j => .bool (if j < i + 1 then decide (0 < j ∧ j < s.size) && foundF (rs.take (k + 1)) s j else decide (0 < j ∧ j < s.size) && foundF (rs.take k) s j))) := HDi.out.congr fun j hj => by
                  by_cases h : j = i
                  · rw [if_neg (by omega), if_pos (by omega), h, hnew1]
                  · by_cases h2 : j < i
                    · rw [if_pos h2, if_pos (by omega)]
                    · rw [if_neg h2, if_neg (by omega)]
                have HKN : Hid (wr.rowIs K 4 (s.size + 1) (fun j => .bool (if j < i + 1 then decide (0 < j ∧ j < s.size) && decideF (rs.take (k + 1)) s j else decide (0 < j ∧ j < s.size) && decideF (rs.take k) s j))) := HKi.out.congr fun j hj => by
                  by_cases h : j = i
                  · rw [if_neg (by omega), if_pos (by omega), h, hnew2]
                  · by_cases h2 : j < i
                    · rw [if_pos h2, if_pos (by omega)]
                    · rw [if_neg h2, if_neg (by omega)]
                clear hnew1 hnew2
                go_wp2_with fail
                go_roundg (s.size + 1 - (i + 1))
                case measure => omega
                case rel => exact ⟨i + 1, by go_num, by omega, by omega, HDN.out, HKN.out, HG1i.out, HG2i.out, z0i, HBi.out, Nat.le_refl _⟩
              | true =>
                rw [hsb] at qb
                cases hpa : prefixF r.af (s.extract i s.size) with
                | false =>
                  rw [hpa] at qa
                  have hnew1 : (decide (0 < i ∧ i < s.size) && foundF (rs.take (k + 1)) s i) = (decide (0 < i ∧ i < s.size) && foundF (rs.take k) s i) := by rw [hnd, hfd, hsb, hpa]; rfl
                  have hnew2 : (decide (0 < i ∧ i < s.size) && decideF (rs.take (k + 1)) s i) = (decide (0 < i ∧ i < s.size) && decideF (rs.take k) s i) := by rw [hnk, if_neg (by rw [hfd]; exact Bool.false_ne_true), hsb, hpa, hno hfd]; rfl
                  clear hnd hnk hno
                  have HDN : Hid (wr.rowIs D 4 (s.size + 1) (fun j => .bool (if j < i + 1 then decide (0 < j ∧ j < s.size) && foundF (rs.take (k + 1)) s j else decide (0 < j ∧ j < s.size) && foundF (rs.take k) s j))) := HDi.out.congr fun j hj => by
                    by_cases h : j = i
                    · rw [if_neg (by omega), if_pos (by omega), h, hnew1]
                    · by_cases h2 : j < i
                      · rw [if_pos h2, if_pos (by omega)]
                      · rw [if_neg h2, if_neg (by omega)]
                  have HKN : Hid (wr.rowIs K 4 (s.size + 1) (fun j => .bool (if j < i + 1 then decide (0 < j ∧ j < s.size) && decideF (rs.take (k + 1)) s j else decide (0 < j ∧ j < s.size) && decideF (rs.take k) s j))) := HKi.out.congr fun j hj => by
                    by_cases h : j = i
                    · rw [if_neg (by omega), if_pos (by omega), h, hnew2]
                    · by_cases h2 : j < i
                      · rw [if_pos h2, if_pos (by omega)]
                      · rw [if_neg h2, if_neg (by omega)]
                  clear hnew1 hnew2
                  go_wp2_with fail
                  go_roundg (s.size + 1 - (i + 1))
                  case measure => omega
                  case rel => exact ⟨i + 1, by go_num, by omega, by omega, HDN.out, HKN.out, HG1i.out, HG2i.out, z0i, HBi.out, Nat.le_refl _⟩
                | true =>
                  rw [hpa] at qa
                  have hnew1 : foundF (rs.take (k + 1)) s i = true := by rw [hnd, hfd, hsb, hpa]; rfl
                  have hnew2 : decideF (rs.take (k + 1)) s i = r.br := by rw [hnk, if_neg (by rw [hfd]; exact Bool.false_ne_true), hsb, hpa]; rfl
                  clear hnd hnk hno
                  have fd := HDi.out.frozen i
                  have fk := HKi.out.frozen i
                  have hne : ¬ D = K := by omega
                  have hne2 : ¬ K = D := by omega
                  have HD8 : Hid (((wr.drew.setCell ⟨D, i, none⟩ (.bool true)).setCell ⟨K, i, none⟩ (.bool r.br)).rowIs D 4 (s.size + 1) (fun j => .bool (if j < i + 1 then decide (0 < j ∧ j < s.size) && foundF (rs.take (k + 1)) s j else decide (0 < j ∧ j < s.size) && foundF (rs.take k) s j))) := ((HDi.out.drew.set i (.bool true)).of_block (Below.heap_setCell _ _ _ _ (show D ≠ K by omega))).congr fun j hj => by
                    by_cases h : j = i
                    · rw [if_pos h, if_pos (by omega), h, hnew1, decide_eq_true ⟨hi1, hil⟩]; rfl
                    · rw [if_neg h]
                      by_cases h2 : j < i
                      · rw [if_pos h2, if_pos (by omega)]
                      · rw [if_neg h2, if_neg (by omega)]
                  have HK8 : Hid (((wr.drew.setCell ⟨D, i, none⟩ (.bool true)).setCell ⟨K, i, none⟩ (.bool r.br)).rowIs K 4 (s.size + 1) (fun j => .bool (if j < i + 1 then decide (0 < j ∧ j < s.size) && decideF (rs.take (k + 1)) s j else decide (0 < j ∧ j < s.size) && decideF (rs.take k) s j))) := ((HKi.out.drew.of_block (Below.heap_setCell _ _ _ _ (show K ≠ D by omega))).set i (.bool r.br)).congr fun j hj => by
                    by_cases h : j = i
                    · rw [if_pos h, if_pos (by omega), h, hnew2, decide_eq_true ⟨hi1, hil⟩]; rfl
                    · rw [if_neg h]
                      by_cases h2 : j < i
                      · rw [if_pos h2, if_pos (by omega)]
                      · rw [if_neg h2, if_neg (by omega)]
                  have HG18 : Hid (((wr.drew.setCell ⟨D, i, none⟩ (.bool true)).setCell ⟨K, i, none⟩ (.bool r.br)).rowIs g1 4 (s.size + 1) (fun j => .bool (reachF s r.bf allF j))) := (HG1i.out.drew.of_block (Below.heap_setCell _ _ _ _ (show g1 ≠ D by omega))).of_block (Below.heap_setCell _ _ _ _ (show g1 ≠ K by omega))
                  have HG28 : Hid (((wr.drew.setCell ⟨D, i, none⟩ (.bool true)).setCell ⟨K, i, none⟩ (.bool r.br)).rowIs g2 4 (s.size + 1) (fun j => .bool (reachF bk r.af.reverse allF j))) := (HG2i.out.drew.of_block (Below.heap_setCell _ _ _ _ (show g2 ≠ D by omega))).of_block (Below.heap_setCell _ _ _ _ (show g2 ≠ K by omega))
                  have HZ8 : Hid (((wr.drew.setCell ⟨D, i, none⟩ (.bool true)).setCell ⟨K, i, none⟩ (.bool r.br)).cell? ⟨q, 0, none⟩ = some (.bool r.br)) := by
                    show _ = _
                    rw [World.cell?_of_block (w := wr.drew.setCell ⟨D, i, none⟩ (.bool true)) (Below.heap_setCell _ _ _ _ (show q ≠ K by omega)), World.cell?_of_block (w := wr.drew) (Below.heap_setCell _ _ _ _ (show q ≠ D by omega))]
                    exact z0i
                  have HB8 : Hid (Below w.heap.size w ((wr.drew.setCell ⟨D, i, none⟩ (.bool true)).setCell ⟨K, i, none⟩ (.bool r.br))) := (HBi.out.drew.setCell (p := ⟨D, i, none⟩) (show w.heap.size ≤ D by omega) _).setCell (p := ⟨K, i, none⟩) (show w.heap.size ≤ K by omega) _
                  go_upto_region 14 with fail
                  go_region
                  go_wp2_with fail
                  go_roundg (s.size + 1 - (i + 1))
                  case measure => omega
                  case rel => exact ⟨i + 1, by go_num, by omega, by omega, HD8.out, HK8.out, HG18.out, HG28.out, HZ8.out, HB8.out, Nat.le_refl _⟩
          · have hge : s.size ≤ i := by omega
            have hii : ¬ (i : Int) < (s.size : Int) := by omega
            have HDE : Hid (wr.rowIs D 4 (s.size + 1) (fun j => .bool (decide (0 < j ∧ j < s.size) && foundF (rs.take (k + 1)) s j))) := HDi.out.congr fun j hj => by
              by_cases h : j < i
              · rw [if_pos h]
              · rw [if_neg h, decide_eq_false (by omega)]; rfl
            have HKE : Hid (wr.rowIs K 4 (s.size + 1) (fun j => .bool (decide (0 < j ∧ j < s.size) && decideF (rs.take (k + 1)) s j))) := HKi.out.congr fun j hj => by
              by_cases h : j < i
              · rw [if_pos h]
              · rw [if_neg h, decide_eq_false (by omega)]; rfl
            go_wp2_with fail
            go_roundg (xs.length - (k + 1))
            case measure => omega
            case rel => exact ⟨k + 1, by go_num, by omega, HDE.out, HKE.out, HBi.out, Nat.le_refl _⟩
    · obtain rfl : k = xs.length := by omega
      have hki : ¬ (xs.length : Int) < (xs.length : Int) := by omega
      have HKF : Hid (wr.rowIs K 4 (s.size + 1) (fun j => .bool (rowB rs s j))) := HK.out.congr fun j hj => by
        rw [List.take_of_length_le hxb]; rfl
      have e0 : uptoN (rowB rs s) (s.size + 1) = breaksF rs s := breaks_row rs s (by omega)
      have E0 := Lib.hid e0
      clear HD HK e0
      obtain ⟨M, hM⟩ : ∃ M, Hid (M = wr.heap.size) := ⟨_, rfl⟩
      have hKM : K < M := by rw [hM.out]; exact HKF.out.lt
      have hwM : w.heap.size ≤ M := by rw [hM.out]; exact HB.out.size
      have hMw : M ≤ wr.heap.size := by rw [hM.out]; exact Nat.le_refl _
      go_wp2_with fail
      obtain ⟨wo3, HWO3⟩ : ∃ wo, Hid (wo = wr) := ⟨wr, rfl⟩
      go_loopg [13, 81] (s.size + 1) (fun gk ov kv wr => ∃ (k : Nat) (q : List Int) (A : Option Addr) (c : Nat), ov = .slice A q.length c ∧ kv = .int .i64 k ∧ k ≤ s.size + 1 ∧ Hid (q = uptoN (rowB rs s) k) ∧ Hid (OwnE 3 intC 1 wr M (.slice A q.length c) q) ∧ Hid (wr.rowIs K 4 (s.size + 1) (fun j => .bool (rowB rs s j))) ∧ M ≤ wr.heap.size ∧ Hid (Below w.heap.size w wr) ∧ q.length ≤ k ∧ s.size + 1 - k ≤ gk)
      case atStart => exact ⟨0, [], none, 0, rfl, rfl, by omega, rfl, OwnE.nil, HKF.out, hMw, HB.out, Nat.le_refl _, by omega⟩
      case round =>
        clear HKF HB hMw HWO3 hM
        obtain ⟨k, q, A, c, rfl, rfl, hk2, HQ, HO, HK2, hMr, HB2, hqk, hgk2⟩ := hrel
        by_cases hkl2 : k < s.size + 1
        · have hkj : (k : Int) < (s.size : Int) + 1 := by omega
          have hk0 : (0 : Int) ≤ (k : Int) := by omega
          have qk := HK2.out.cell (i := k) hkl2
          have HQ2 : Hid (uptoN (rowB rs s) (k + 1) = q ++ if rowB rs s k = true then [(k : Int)] else []) := by show _ = _; rw [uptoN_succ, HQ.out]
          cases hb : rowB rs s k with
          | false =>
            rw [hb] at qk HQ2
            rw [if_neg Bool.false_ne_true, List.append_nil] at HQ2
            go_wp2_with fail
            go_roundg (s.size + 1 - (k + 1))
            case measure => omega
            case rel => exact ⟨k + 1, q, A, c, rfl, by go_num, by omega, HQ2.out.symm, HO.out, HK2.out, hMr, HB2.out, by omega, Nat.le_refl _⟩
          | true =>
            rw [hb] at qk HQ2
            rw [if_pos rfl] at HQ2
            go_wp2_with (at_builtin; go_must (refine wpList_app1 rfl (.tmp 87) (.tmp 89) 32 3 rfl Tryd.underlying32 _ 1 8 int_info6 rfl (by decide) M (.slice A q.length c) q.length (q.flatMap intC) rfl (own_below HO.out ((Below.refl _ wr).alloc (Nat.le_refl _) _) (Nat.le_refl _)) ⟨wr.heap.size, 0, none⟩ 1 (intC k) rfl rfl (cells_new wr (intC k) 3) (intC_oneA k) (by omega) (by decide) (by simp; omega) ?_); intro g9 cap w9 hown9 hbg9 hbel9 hgrow9)
            have hbn := hbel9 M wr (Nat.le_refl _) ((Below.refl M wr).alloc hMr (.cells (intC k).toArray 3))
            have HB9 := Lib.hid (HB2.out.trans (hbn.mono hwM))
            have HO9 : Hid (OwnE 3 intC 1 w9 M (.slice (some ⟨g9, 0, none⟩) (q.length + 1) cap) (q ++ [(k : Int)])) := OwnE.snoc hown9
            have HK9 := Lib.hid (HK2.out.of_block (hbn.block _ hKM))
            have hM9 := Nat.le_trans hMr hbn.size
            clear hown9 hbel9 hgrow9 hbn
            go_wp2_with fail
            go_roundg (s.size + 1 - (k + 1))
            case measure => omega
            case rel => exact ⟨k + 1, q ++ [(k : Int)], some ⟨g9, 0, none⟩, cap, by (show Value.slice _ _ _ = Value.slice _ _ _); rw [List.length_append]; rfl, by go_num, by omega, HQ2.out.symm, by (show OwnE _ _ _ _ _ _ _); rw [List.length_append]; exact HO9.out, HK9.out, hM9, HB9.out, by rw [List.length_append]; show q.length + 1 ≤ k + 1; omega, Nat.le_refl _⟩
        · obtain rfl : k = s.size + 1 := by omega
          have hkj : ¬ (((s.size + 1 : Nat)) : Int) < (s.size : Int) + 1 := by omega
          have E1 : Hid (q = breaksF rs s) := HQ.out.trans E0.out
          go_wp2_with fail
          rw [HRR.out]
          have h := own_base HO.out hwM
          rw [← E1.out]
          exact ⟨_, rfl, h, HB2.out⟩

end Go.Proofs.YtpboaadjbkaidaaDoor
