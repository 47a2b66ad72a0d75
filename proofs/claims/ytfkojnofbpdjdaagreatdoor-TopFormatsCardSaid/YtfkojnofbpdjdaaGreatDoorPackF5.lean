/-
  Contracts and plain laws that this claim leans on, part 5.
-/
import Derived.Test.YtfkojnofbpdjdaaGreatDoorPackF4
import Derived.Test.YtfkojnofbpdjdaaGreatDoorPackF1
import Derived.Lib.SliceRun
set_option linter.unusedVariables false
set_option linter.unusedSimpArgs false
namespace Go.Proofs.YtfkojnofbpdjdaaGreatDoor
set_option maxRecDepth 100000
open Go.RowKit

theorem at_range {w : World} {q : Nat} {x : At} (h : AtIn w q x) : w.drew.rangeAt q 0 (atC x) := fun j v hj => by
  rw [Nat.zero_add]
  show w.cell? _ = _
  rw [cell_of_row _ _ _ _ _ _ h]
  simpa using hj

set_option maxRecDepth 100000 in
set_option maxHeartbeats 8000000 in
theorem ends_any (l : List At) (s : ByteArray) (lv : Value) (w : World) (hp : RdE atC 34 w lv l) (hs : s.size ≤ 1048576) (hl : l.length ≤ 140737488355328) :
    Calls Tryz.prog 102 #[lv, .string s] w (RetPl w (s.size + 1) (reachF s l allF)) := by
  obtain ⟨A, c, rfl, hlc, _⟩ := hp.shape
  have HP := Lib.hid hp
  clear hp
  have hu := Tryz.underlying107
  have hi : (Tryz.prog.info? 107).map (·.size) = some 34 := atom_size
  have hmk := fun w => run_make_row' (P := Tryz.prog) 134 4 (.bool false) 1 Tryz.underlying134 bool_info rfl .i64 .i64 (s.size + 1) (by omega) (by omega) w
  rw [show ((s.size + 1 : Nat) : Int) = (s.size : Int) + 1 by omega] at hmk
  obtain ⟨R, HRR⟩ : ∃ R, Hid (R = reachF s l allF) := ⟨_, rfl⟩
  rw [← HRR.out]
  go_enter Tryz.func102, Tryz.ntmps102
  have HR0 : Hid ((w.alloc (.cells (madeCells #[.bool false] (s.size + 1)) 4)).rowIs w.heap.size 4 (s.size + 1) (fun j => .bool (decide (j < 0)))) := (World.rowIs_made w (.bool false) (s.size + 1) 4).congr fun j _ => by rw [decide_eq_false (by omega)]
  have HB0 := Lib.hid ((Below.refl w.heap.size w).alloc (Nat.le_refl _) (.cells (madeCells #[.bool false] (s.size + 1)) 4))
  go_upto_region 2 with fail
  generalize w.alloc (.cells (madeCells #[.bool false] (s.size + 1)) 4) = w1 at HR0 HB0 ⊢
  go_wp2_with fail
  go_loopg [17] (s.size + 1) (fun gk kv wr => ∃ k : Nat, k ≤ s.size + 1 ∧ kv = .int .i64 k ∧ Hid (wr.rowIs w.heap.size 4 (s.size + 1) (fun j => .bool (decide (j < k)))) ∧ Hid (Below w.heap.size w wr) ∧ s.size + 1 - k ≤ gk)
  case atStart => exact ⟨0, by omega, rfl, HR0.out, HB0.out, by omega⟩
  case round =>
    clear HR0 HB0
    obtain ⟨k, hk, rfl, HR, HB, hgk⟩ := hrel
    by_cases hkl : k < s.size + 1
    · have hki : (k : Int) < (s.size : Int) + 1 := by omega
      have r0 := HR.out.cell (i := k) hkl
      have rf := HR.out.frozen k
      have HR1 : Hid ((wr.setCell ⟨w.heap.size, k, none⟩ (.bool true)).rowIs w.heap.size 4 (s.size + 1) (fun j => .bool (decide (j < k + 1)))) := (HR.out.set k (.bool true)).congr fun j _ => by
        by_cases h : j = k
        · rw [if_pos h, decide_eq_true (by omega)]
        · rw [if_neg h]
          congr 1
          rw [decide_eq_decide]
          omega
      go_wp2_with fail
      go_roundg (s.size + 1 - (k + 1))
      case measure => omega
      case rel => exact ⟨k + 1, by omega, by go_num, HR1.out, HB.out.setCell (p := ⟨w.heap.size, k, none⟩) (Nat.le_refl _) _, Nat.le_refl _⟩
    obtain rfl : k = s.size + 1 := by omega
    have hki : ¬ (((s.size + 1 : Nat)) : Int) < (s.size : Int) + 1 := by omega
    have HRA : Hid (wr.rowIs w.heap.size 4 (s.size + 1) (fun j => .bool (allF j))) := HR.out.congr fun j hj => by rw [decide_eq_true hj]; rfl
    clear HR
    go_wp2_with fail
    obtain ⟨wo, HWO⟩ : ∃ wo, Hid (wo = wr) := ⟨wr, rfl⟩
    go_loopg [5, 26] l.length (fun gk pv kv wr => ∃ (k b : Nat) (g : Nat → Bool), pv = .slice (some ⟨b, 0, none⟩) (s.size + 1) (s.size + 1) ∧ kv = .int .i64 k ∧ k ≤ l.length ∧ w.heap.size ≤ b ∧ Hid (wr.rowIs b 4 (s.size + 1) (fun j => .bool (g j))) ∧ Hid (reachF s (l.drop k) g = R) ∧ Hid (Below w.heap.size w wr) ∧ l.length - k ≤ gk)
    case atStart => exact ⟨0, w.heap.size, allF, rfl, rfl, by omega, by omega, HRA.out, by (show _ = _); rw [HRR.out]; rfl, HB.out, by omega⟩
    case round =>
      clear HRA HB HWO
      obtain ⟨k, b, g, rfl, rfl, hk2, hbw, HG, HX, HB, hgk2⟩ := hrel
      by_cases hkl : k < l.length
      · have hki2 : (k : Int) < (l.length : Int) := by omega
        have hk0 : (0 : Int) ≤ (k : Int) := by omega
        obtain ⟨bp, o, rfl, hbl, hcell⟩ := HP.out.cells (by omega)
        have hx : l[k]? = some l[k] := List.getElem?_eq_getElem hkl
        have HX2 : Hid (reachF s (l.drop (k + 1)) (advF l[k] s g) = R) := by
          have h := HX.out
          rw [List.drop_eq_getElem_cons hkl] at h
          exact h
        have hrg : wr.rangeAt bp (o + k * 34) (atC l[k]) := fun j v hj => by
          rw [Nat.add_assoc]
          exact (HB.out.cell (p := ⟨bp, o + (k * 34 + j), none⟩) hbl).trans (hcell k _ j v hx hj)
        clear HX hx hcell
        generalize l[k] = x at HX2 hrg
        have hz := HB.out.size
        have HA1 := Lib.hid ((at_zero wr).row x)
        have HB1 : Hid (Below w.heap.size w ((wr.alloc (.cells #[.int .u8 0, .int .u8 0, .int .u8 0, .int .u8 0, .int .u8 0, .int .u8 0, .int .u8 0, .int .u8 0, .int .u8 0, .int .u8 0, .int .u8 0, .int .u8 0, .int .u8 0, .int .u8 0, .int .u8 0, .int .u8 0, .int .u8 0, .int .u8 0, .int .u8 0, .int .u8 0, .int .u8 0, .int .u8 0, .int .u8 0, .int .u8 0, .int .u8 0, .int .u8 0, .int .u8 0, .int .u8 0, .int .u8 0, .int .u8 0, .int .u8 0, .int .u8 0, .int .i64 0, .bool false] 107)).setRow wr.heap.size (atC x).toArray)) := below_setRow (HB.out.alloc hz _) hz _
        have HK1 : Hid (Below wr.heap.size wr ((wr.alloc (.cells #[.int .u8 0, .int .u8 0, .int .u8 0, .int .u8 0, .int .u8 0, .int .u8 0, .int .u8 0, .int .u8 0, .int .u8 0, .int .u8 0, .int .u8 0, .int .u8 0, .int .u8 0, .int .u8 0, .int .u8 0, .int .u8 0, .int .u8 0, .int .u8 0, .int .u8 0, .int .u8 0, .int .u8 0, .int .u8 0, .int .u8 0, .int .u8 0, .int .u8 0, .int .u8 0, .int .u8 0, .int .u8 0, .int .u8 0, .int .u8 0, .int .u8 0, .int .u8 0, .int .i64 0, .bool false] 107)).setRow wr.heap.size (atC x).toArray)) := below_setRow ((Below.refl _ wr).alloc (Nat.le_refl _) _) (Nat.le_refl _) _
        go_upto_region 10 with (first
          | (refine wpList_load_mid rfl 107 (.tmp 28) rfl bp (o + k * 34) rfl (atC x) _ hrg hu rfl (by rw [hi, atC_len]) ?_)
          | (refine wpList_store_row rfl 107 (.tmp 8) (.tmp 29) rfl (wr.heap.size) (atC x).toArray rfl rfl 107 (atC ⟨noP, 0, false⟩).toArray (at_zero wr) (by rw [atom_size, atC_size]) (by simp only [atC_size]) (atC_oneA _) ?_))
        have HG1 := Lib.hid (HG.out.of_block (w' := (wr.alloc (.cells #[.int .u8 0, .int .u8 0, .int .u8 0, .int .u8 0, .int .u8 0, .int .u8 0, .int .u8 0, .int .u8 0, .int .u8 0, .int .u8 0, .int .u8 0, .int .u8 0, .int .u8 0, .int .u8 0, .int .u8 0, .int .u8 0, .int .u8 0, .int .u8 0, .int .u8 0, .int .u8 0, .int .u8 0, .int .u8 0, .int .u8 0, .int .u8 0, .int .u8 0, .int .u8 0, .int .u8 0, .int .u8 0, .int .u8 0, .int .u8 0, .int .u8 0, .int .u8 0, .int .i64 0, .bool false] 107)).setRow wr.heap.size (atC x).toArray) (HK1.out.block _ HG.out.lt))
        have hbq : b < wr.heap.size := HG.out.lt
        have hz1 := HK1.out.size
        have hqz : wr.heap.size < ((wr.alloc (.cells #[.int .u8 0, .int .u8 0, .int .u8 0, .int .u8 0, .int .u8 0, .int .u8 0, .int .u8 0, .int .u8 0, .int .u8 0, .int .u8 0, .int .u8 0, .int .u8 0, .int .u8 0, .int .u8 0, .int .u8 0, .int .u8 0, .int .u8 0, .int .u8 0, .int .u8 0, .int .u8 0, .int .u8 0, .int .u8 0, .int .u8 0, .int .u8 0, .int .u8 0, .int .u8 0, .int .u8 0, .int .u8 0, .int .u8 0, .int .u8 0, .int .u8 0, .int .u8 0, .int .i64 0, .bool false] 107)).setRow wr.heap.size (atC x).toArray).heap.size := (Array.getElem?_eq_some_iff.1 HA1.out).1
        clear HB hrg HG HK1
        generalize wr.heap.size = q at HA1 HB1 HG1 hz hbq hz1 hqz ⊢
        generalize (wr.alloc (.cells #[.int .u8 0, .int .u8 0, .int .u8 0, .int .u8 0, .int .u8 0, .int .u8 0, .int .u8 0, .int .u8 0, .int .u8 0, .int .u8 0, .int .u8 0, .int .u8 0, .int .u8 0, .int .u8 0, .int .u8 0, .int .u8 0, .int .u8 0, .int .u8 0, .int .u8 0, .int .u8 0, .int .u8 0, .int .u8 0, .int .u8 0, .int .u8 0, .int .u8 0, .int .u8 0, .int .u8 0, .int .u8 0, .int .u8 0, .int .u8 0, .int .u8 0, .int .u8 0, .int .i64 0, .bool false] 107)).setRow q (atC x).toArray = w2 at HA1 HB1 HG1 hz1 hqz ⊢
        have HR1 : Hid ((w2.alloc (.cells (madeCells #[.bool false] (s.size + 1)) 4)).rowIs w2.heap.size 4 (s.size + 1) (fun j => .bool (if j < 0 then advF x s g j else false))) := (World.rowIs_made w2 (.bool false) (s.size + 1) 4).congr fun j _ => by rw [if_neg (Nat.not_lt_zero j)]
        have HB2 := Lib.hid (HB1.out.alloc (by omega) (.cells (madeCells #[.bool false] (s.size + 1)) 4))
        have HA2 : Hid (AtIn (w2.alloc (.cells (madeCells #[.bool false] (s.size + 1)) 4)) q x) := HA1.out.keep (Below.heap_alloc w2 _ q hqz)
        have HG2 := Lib.hid (HG1.out.of_block (w' := w2.alloc (.cells (madeCells #[.bool false] (s.size + 1)) 4)) (Below.heap_alloc w2 _ b (by omega)))
        go_upto_region 11 with fail
        clear HB1 HA1 HG1 hz1
        generalize w2.heap.size = N at HR1 hqz ⊢
        generalize w2.alloc (.cells (madeCells #[.bool false] (s.size + 1)) 4) = w3 at HR1 HB2 HA2 HG2 ⊢
        go_wp2_with fail
        obtain ⟨wo2, HWO2⟩ : ∃ wo, Hid (wo = w3) := ⟨w3, rfl⟩
        go_loopg [36] (s.size + 1) (fun gk kv wr => ∃ i : Nat, i ≤ s.size + 1 ∧ kv = .int .i64 i ∧ Hid (wr.rowIs N 4 (s.size + 1) (fun j => .bool (if j < i then advF x s g j else false))) ∧ Hid (wr.rowIs b 4 (s.size + 1) (fun j => .bool (g j))) ∧ Hid (AtIn wr q x) ∧ Hid (Below w.heap.size w wr) ∧ s.size + 1 - i ≤ gk)
        case atStart => exact ⟨0, by omega, rfl, HR1.out, HG2.out, HA2.out, HB2.out, by omega⟩
        case round =>
          clear HR1 HG2 HA2 HB2
          obtain ⟨i, hil0, rfl, HR, HG, HA, HB, hgk3⟩ := hrel
          by_cases hil : i < s.size + 1
          · have hii : (i : Int) < (s.size : Int) + 1 := by omega
            have hi0 : (0 : Int) ≤ (i : Int) := by omega
            have qm := HA.out.mn
            have qg := HG.out.cell (i := i) hil
            have r0 := HR.out.cell (i := i) hil
            rw [if_neg (Nat.lt_irrefl i)] at r0
            have rf := HR.out.frozen i
            have hbN : b < N := by omega
            obtain ⟨gi, hgi⟩ : ∃ gi, g i = gi := ⟨_, rfl⟩
            rw [hgi] at qg
            by_cases hm : x.mn < 1
            · have HBI : Hid ((decide (x.mn < 1) && g i) = gi) := by show _ = _; rw [decide_eq_true hm, hgi]; rfl
              have HR1 : Hid ((wr.setCell ⟨N, i, none⟩ (.bool gi)).rowIs N 4 (s.size + 1) (fun j => .bool (if j = i then gi else if j < i then advF x s g j else false))) := (HR.out.set i (.bool gi)).congr fun j hj => by
                by_cases h : j = i
                · rw [if_pos h, if_pos h]
                · rw [if_neg h, if_neg h]
              have HG1 := Lib.hid (HG.out.of_block (w' := (wr.setCell ⟨N, i, none⟩ (.bool gi))) (Below.heap_setCell _ _ _ _ (show b ≠ N by omega)))
              have HA1 : Hid (AtIn (wr.setCell ⟨N, i, none⟩ (.bool gi)) q x) := HA.out.keep (Below.heap_setCell _ _ _ _ (show q ≠ N by omega))
              have HB1 : Hid (Below w.heap.size w (wr.setCell ⟨N, i, none⟩ (.bool gi))) := HB.out.setCell (p := ⟨N, i, none⟩) (show w.heap.size ≤ N by omega) _
              have hN4 : N < (wr.setCell ⟨N, i, none⟩ (.bool gi)).heap.size := HR1.out.lt
              go_upto_region 15 with fail
              clear HR HG HA HB qm qg r0 rf hgi
              generalize (wr.setCell ⟨N, i, none⟩ (.bool gi)) = w4 at HR1 HG1 HA1 HB1 hN4 ⊢
              rcases i with _ | m
              · have HVE : Hid (advF x s g 0 = gi) := by show _ = _; rw [adv_zero, HBI.out]
                refine wp_region_at 28 #[false, false, false, false, false, false, false, false, false, false, false, false, false, false, false, false, false, false, false, false, false, false, false, false, false, false, false, false] rfl rfl (by kernel_rfl) ?_
                refine wpAny_at (i := 0) (v := .int .i64 0) (some 51) rfl rfl (by kernel_rfl) (by kernel_rfl) (by kernel_rfl) (fun _ _ _ h => h) (by kernel_rfl) (fun _ => ex_move _ _ rfl (by kernel_rfl)) ?_
                simp only [Act.put, List.setIfInBounds_toArray, List.set_cons_zero, List.set_cons_succ]
                refine wpAny_at (i := 1) (v := .bool false) (some 52) rfl rfl (by kernel_rfl) (by kernel_rfl) (by kernel_rfl) (fun _ _ _ h => h) (by kernel_rfl) (fun _ => ex_binOp .gtr 3 _ _ _ (.int .i64 0) (.int .i64 0) _ rfl (by kernel_rfl) (by kernel_rfl) (by go_simp)) ?_
                simp only [Act.put, List.setIfInBounds_toArray, List.set_cons_zero, List.set_cons_succ]
                refine wpAny_at (i := 2) (v := .bool false) (some 53) rfl rfl (by kernel_rfl) (by kernel_rfl) (by kernel_rfl) (fun _ _ _ h => h) (by kernel_rfl) (fun _ => ex_move _ _ rfl (by kernel_rfl)) ?_
                simp only [Act.put, List.setIfInBounds_toArray, List.set_cons_zero, List.set_cons_succ]
                refine wpAny_skip 3 (some 54) rfl rfl (by kernel_rfl) (by kernel_rfl) (by kernel_rfl) (fun _ _ _ h => h) (by kernel_rfl) ?_
                simp only [Act.put, List.setIfInBounds_toArray, List.set_cons_zero, List.set_cons_succ]
                refine wpAny_skip 4 (some 55) rfl rfl (by kernel_rfl) (by kernel_rfl) (by kernel_rfl) (fun _ _ _ h => h) (by kernel_rfl) ?_
                simp only [Act.put, List.setIfInBounds_toArray, List.set_cons_zero, List.set_cons_succ]
                refine wpAny_skip 5 (some 56) rfl rfl (by kernel_rfl) (by kernel_rfl) (by kernel_rfl) (fun _ _ _ h => h) (by kernel_rfl) ?_
                simp only [Act.put, List.setIfInBounds_toArray, List.set_cons_zero, List.set_cons_succ]
                refine wpAny_skip 6 (some 57) rfl rfl (by kernel_rfl) (by kernel_rfl) (by kernel_rfl) (fun _ _ _ h => h) (by kernel_rfl) ?_
                simp only [Act.put, List.setIfInBounds_toArray, List.set_cons_zero, List.set_cons_succ]
                refine wpAny_skip 7 (some 58) rfl rfl (by kernel_rfl) (by kernel_rfl) (by kernel_rfl) (fun _ _ _ h => h) (by kernel_rfl) ?_
                simp only [Act.put, List.setIfInBounds_toArray, List.set_cons_zero, List.set_cons_succ]
                refine wpAny_skip 8 (some 59) rfl rfl (by kernel_rfl) (by kernel_rfl) (by kernel_rfl) (fun _ _ _ h => h) (by kernel_rfl) ?_
                simp only [Act.put, List.setIfInBounds_toArray, List.set_cons_zero, List.set_cons_succ]
                refine wpAny_at (i := 9) (v := .bool false) (some 60) rfl rfl (by kernel_rfl) (by kernel_rfl) (by kernel_rfl) (fun _ _ _ h => h) (by kernel_rfl) (fun _ => ex_pick _ _ _ false (undef) (.bool false) rfl (by kernel_rfl) (by kernel_rfl) (by kernel_rfl)) ?_
                simp only [Act.put, List.setIfInBounds_toArray, List.set_cons_zero, List.set_cons_succ]
                refine wpAny_at (i := 10) (v := .bool false) (some 61) rfl rfl (by kernel_rfl) (by kernel_rfl) (by kernel_rfl) (fun _ _ _ h => h) (by kernel_rfl) (fun _ => ex_move _ _ rfl (by kernel_rfl)) ?_
                simp only [Act.put, List.setIfInBounds_toArray, List.set_cons_zero, List.set_cons_succ]
                refine wpAny_skip 11 (some 62) rfl rfl (by kernel_rfl) (by kernel_rfl) (by kernel_rfl) (fun _ _ _ h => h) (by kernel_rfl) ?_
                simp only [Act.put, List.setIfInBounds_toArray, List.set_cons_zero, List.set_cons_succ]
                refine wpAny_skip 12 (some 63) rfl rfl (by kernel_rfl) (by kernel_rfl) (by kernel_rfl) (fun _ _ _ h => h) (by kernel_rfl) ?_
                simp only [Act.put, List.setIfInBounds_toArray, List.set_cons_zero, List.set_cons_succ]
                refine wpAny_skip 13 (some 64) rfl rfl (by kernel_rfl) (by kernel_rfl) (by kernel_rfl) (fun _ _ _ h => h) (by kernel_rfl) ?_
                simp only [Act.put, List.setIfInBounds_toArray, List.set_cons_zero, List.set_cons_succ]
                refine wpAny_skip 14 (some 65) rfl rfl (by kernel_rfl) (by kernel_rfl) (by kernel_rfl) (fun _ _ _ h => h) (by kernel_rfl) ?_
                simp only [Act.put, List.setIfInBounds_toArray, List.set_cons_zero, List.set_cons_succ]
                refine wpAny_skip 15 (some 66) rfl rfl (by kernel_rfl) (by kernel_rfl) (by kernel_rfl) (fun _ _ _ h => h) (by kernel_rfl) ?_
                simp only [Act.put, List.setIfInBounds_toArray, List.set_cons_zero, List.set_cons_succ]
                refine wpAny_skip 16 (some 67) rfl rfl (by kernel_rfl) (by kernel_rfl) (by kernel_rfl) (fun _ _ _ h => h) (by kernel_rfl) ?_
                simp only [Act.put, List.setIfInBounds_toArray, List.set_cons_zero, List.set_cons_succ]
                refine wpAny_skip 17 (some 68) rfl rfl (by kernel_rfl) (by kernel_rfl) (by kernel_rfl) (fun _ _ _ h => h) (by kernel_rfl) ?_
                simp only [Act.put, List.setIfInBounds_toArray, List.set_cons_zero, List.set_cons_succ]
                refine wpAny_skip 18 (some 69) rfl rfl (by kernel_rfl) (by kernel_rfl) (by kernel_rfl) (fun _ _ _ h => h) (by kernel_rfl) ?_
                simp only [Act.put, List.setIfInBounds_toArray, List.set_cons_zero, List.set_cons_succ]
                refine wpAny_skip 19 (some 70) rfl rfl (by kernel_rfl) (by kernel_rfl) (by kernel_rfl) (fun _ _ _ h => h) (by kernel_rfl) ?_
                simp only [Act.put, List.setIfInBounds_toArray, List.set_cons_zero, List.set_cons_succ]
                refine wpAny_skip 20 (some 71) rfl rfl (by kernel_rfl) (by kernel_rfl) (by kernel_rfl) (fun _ _ _ h => h) (by kernel_rfl) ?_
                simp only [Act.put, List.setIfInBounds_toArray, List.set_cons_zero, List.set_cons_succ]
                refine wpAny_skip 21 (some 72) rfl rfl (by kernel_rfl) (by kernel_rfl) (by kernel_rfl) (fun _ _ _ h => h) (by kernel_rfl) ?_
                simp only [Act.put, List.setIfInBounds_toArray, List.set_cons_zero, List.set_cons_succ]
                refine wpAny_skip 22 (some 73) rfl rfl (by kernel_rfl) (by kernel_rfl) (by kernel_rfl) (fun _ _ _ h => h) (by kernel_rfl) ?_
                simp only [Act.put, List.setIfInBounds_toArray, List.set_cons_zero, List.set_cons_succ]
                refine wpAny_skip 23 (some 74) rfl rfl (by kernel_rfl) (by kernel_rfl) (by kernel_rfl) (fun _ _ _ h => h) (by kernel_rfl) ?_
                simp only [Act.put, List.setIfInBounds_toArray, List.set_cons_zero, List.set_cons_succ]
                refine wpAny_skip 24 (some 75) rfl rfl (by kernel_rfl) (by kernel_rfl) (by kernel_rfl) (fun _ _ _ h => h) (by kernel_rfl) ?_
                simp only [Act.put, List.setIfInBounds_toArray, List.set_cons_zero, List.set_cons_succ]
                refine wpAny_skip 25 (some 76) rfl rfl (by kernel_rfl) (by kernel_rfl) (by kernel_rfl) (fun _ _ _ h => h) (by kernel_rfl) ?_
                simp only [Act.put, List.setIfInBounds_toArray, List.set_cons_zero, List.set_cons_succ]
                refine wpAny_skip 26 (some 77) rfl rfl (by kernel_rfl) (by kernel_rfl) (by kernel_rfl) (fun _ _ _ h => h) (by kernel_rfl) ?_
                simp only [Act.put, List.setIfInBounds_toArray, List.set_cons_zero, List.set_cons_succ]
                refine wpAny_at (i := 27) (v := .bool false) (some 78) rfl rfl (by kernel_rfl) (by kernel_rfl) (by kernel_rfl) (fun _ _ _ h => h) (by kernel_rfl) (fun _ => ex_pick _ _ _ false (undef) (.bool false) rfl (by kernel_rfl) (by kernel_rfl) (by kernel_rfl)) ?_
                simp only [Act.put, List.setIfInBounds_toArray, List.set_cons_zero, List.set_cons_succ]
                refine wpAny_done (by kernel_rfl) ?_ _
                have HRE : Hid (w4.drew.rowIs N 4 (s.size + 1) (fun j => .bool (if j < 0 + 1 then advF x s g j else false))) := HR1.out.congr fun j hj => by
                  by_cases h : j = 0
                  · rw [if_pos h, if_pos (by omega), h, HVE.out]
                  · rw [if_neg h, if_neg (by omega), if_neg (by omega)]
                go_wp2_with fail
                go_roundg (s.size + 1 - (0 + 1))
                case measure => omega
                case rel => exact ⟨0 + 1, by omega, by go_num, HRE.out, HG1.out.drew, HA1.out, HB1.out.drew, Nat.le_refl _⟩
              · have hms : m < s.size := by omega
                have hmsi : (m : Int) < (s.size : Int) := by omega
                have hm0 : (0 : Int) ≤ (m : Int) := by omega
                have hc1 : ((m + 1 : Nat) : Int) = (m : Int) + 1 := by omega
                rw [hc1]
                have HLD := Lib.hid (run_loadAt_mid (P := Tryz.prog) w4.drew q 0 107 (atC x) _ (at_range HA1.out) hu rfl (by rw [hi, atC_len]))
                have HGT : Hid (∀ w, (do eqGuard .gtr 3 (.tmp 51) (.const (.int .i64 0)) (.int .i64 ((m : Int) + 1)) (.int .i64 0); Go.binOp .gtr 3 (.int .i64 ((m : Int) + 1)) (.int .i64 0) : Sem Value).run Tryz.prog w = .ok (.bool true) w) := by
                  have h1 : (0 : Int) < (m : Int) + 1 := by omega
                  show ∀ w, _ = _
                  intro w
                  go_simp
                have HSB : Hid (∀ {x y : Operand} (w : World), (do eqGuard .sub 3 x y (.int .i64 ((m : Int) + 1)) (.int .i64 1); Go.binOp .sub 3 (.int .i64 ((m : Int) + 1)) (.int .i64 1) : Sem Value).run Tryz.prog w = .ok (.int .i64 m) w) := by
                  show ∀ (x y : Operand) (w : World), _ = _
                  intro x y w
                  go_simp
                  rw [IntKind.wrap_i64]
                  omega
                have HIX : Hid (∀ w, (Instr.index 9 (.string s) (.int .i64 m)).run Tryz.prog w = .ok (.int .u8 (s[m].toNat)) w) := by
                  show ∀ w, _ = _
                  intro w
                  go_simp
                have hmi2 : (m : Int) < (s.size : Int) + 1 := by omega
                have HIB : Hid (∀ w, (Instr.indexAt 134 (.slice (some ⟨b, 0, none⟩) (s.size + 1) (s.size + 1)) (.int .i64 m)).run Tryz.prog w = .ok (.pointer (some ⟨b, m, none⟩)) w) := by
                  show ∀ w, _ = _
                  intro w
                  go_simp
                have HIN : Hid (∀ w, (Instr.indexAt 134 (.slice (some ⟨N, 0, none⟩) (s.size + 1) (s.size + 1)) (.int .i64 m)).run Tryz.prog w = .ok (.pointer (some ⟨N, m, none⟩)) w) := by
                  show ∀ w, _ = _
                  intro w
                  go_simp
                have HV : Hid (advF x s g (m + 1) = (gi || (x.p (s[m].toNat) && (g m || (x.many && advF x s g m))))) := by
                  show _ = _
                  rw [adv_own, HBI.out, bt_get s m hms]
                have HC0 := Lib.hid (fun w => contains_any x (s[m].toNat) w (UInt8.toNat_lt _))
                have HR4 : Hid (w4.drew.rowIs N 4 (s.size + 1) (fun j => .bool (if j = m + 1 then gi else if j < m + 1 then advF x s g j else false))) := HR1.out
                have HG4 : Hid (w4.drew.rowIs b 4 (s.size + 1) (fun j => .bool (g j))) := HG1.out
                have HA4 : Hid (AtIn w4.drew q x) := HA1.out
                have HB4 : Hid (Below w.heap.size w w4.drew) := HB1.out.drew
                have hq4 : q < w4.drew.heap.size := (Array.getElem?_eq_some_iff.1 HA1.out).1
                have hN5 : N < w4.drew.heap.size := hN4
                clear HR1 HG1 HA1 HB1 hN4
                cases hpx : x.p (s[m].toNat) with
                | false =>
                  rw [hpx] at HV
                  have HC := HC0
                  rw [hpx] at HC
                  have HVE : Hid (advF x s g (m + 1) = gi) := by
                    show _ = _
                    rw [HV.out]
                    exact Bool.or_false _
                  refine wp_region_at 28 #[false, false, false, false, false, false, false, false, false, false, false, false, false, false, false, false, false, false, false, false, false, false, false, false, false, false, false, false] rfl rfl (by kernel_rfl) ?_
                  refine wpAny_at (i := 0) (v := .int .i64 ((m : Int) + 1)) (some 51) rfl rfl (by kernel_rfl) (by kernel_rfl) (by kernel_rfl) (fun _ _ _ h => h) (by kernel_rfl) (fun _ => ex_move _ _ rfl (by kernel_rfl)) ?_
                  simp only [Act.put, List.setIfInBounds_toArray, List.set_cons_zero, List.set_cons_succ]
                  refine wpAny_at (i := 1) (v := .bool true) (some 52) rfl rfl (by kernel_rfl) (by kernel_rfl) (by kernel_rfl) (fun _ _ _ h => h) (by kernel_rfl) (fun _ => ex_binOp .gtr 3 _ _ _ (.int .i64 ((m : Int) + 1)) (.int .i64 0) _ rfl (by kernel_rfl) (by kernel_rfl) (HGT.out _)) ?_
                  simp only [Act.put, List.setIfInBounds_toArray, List.set_cons_zero, List.set_cons_succ]
                  refine wpAny_at (i := 2) (v := .bool true) (some 53) rfl rfl (by kernel_rfl) (by kernel_rfl) (by kernel_rfl) (fun _ _ _ h => h) (by kernel_rfl) (fun _ => ex_move _ _ rfl (by kernel_rfl)) ?_
                  simp only [Act.put, List.setIfInBounds_toArray, List.set_cons_zero, List.set_cons_succ]
                  refine wpAny_at (i := 4) (v := .string s) (some 55) rfl rfl (by kernel_rfl) (by kernel_rfl) (by kernel_rfl) (fun _ _ _ h => h) (by kernel_rfl) (fun _ => ex_move _ _ rfl (by kernel_rfl)) ?_
                  simp only [Act.put, List.setIfInBounds_toArray, List.set_cons_zero, List.set_cons_succ]
                  refine wpAny_at (i := 5) (v := .int .i64 ((m : Int) + 1)) (some 56) rfl rfl (by kernel_rfl) (by kernel_rfl) (by kernel_rfl) (fun _ _ _ h => h) (by kernel_rfl) (fun _ => ex_move _ _ rfl (by kernel_rfl)) ?_
                  simp only [Act.put, List.setIfInBounds_toArray, List.set_cons_zero, List.set_cons_succ]
                  refine wpAny_at (i := 6) (v := .int .i64 m) (some 57) rfl rfl (by kernel_rfl) (by kernel_rfl) (by kernel_rfl) (fun _ _ _ h => h) (by kernel_rfl) (fun _ => ex_binOp .sub 3 _ _ _ (.int .i64 ((m : Int) + 1)) (.int .i64 1) _ rfl (by kernel_rfl) (by kernel_rfl) (HSB.out _)) ?_
                  simp only [Act.put, List.setIfInBounds_toArray, List.set_cons_zero, List.set_cons_succ]
                  refine wpAny_at (i := 7) (v := .int .u8 (s[m].toNat)) (some 58) rfl rfl (by kernel_rfl) (by kernel_rfl) (by kernel_rfl) (fun _ _ _ h => h) (by kernel_rfl) (fun _ => ex_index 9 _ _ (.string s) (.int .i64 m) _ rfl (by kernel_rfl) (by kernel_rfl) (HIX.out _)) ?_
                  simp only [Act.put, List.setIfInBounds_toArray, List.set_cons_zero, List.set_cons_succ]
                  refine wpAny_val 3 (some 54) (.agg (atC x).toArray) (by kernel_rfl) rfl rfl (by kernel_rfl) (ex_load 107 _ (.pointer (some ⟨q, 0, none⟩)) _ rfl (by kernel_rfl) (HLD.out)) ?_
                  simp only [Act.put, List.setIfInBounds_toArray, List.set_cons_zero, List.set_cons_succ]
                  refine wpAny_call 8 (some 59) (by kernel_rfl) rfl rfl (by kernel_rfl) 152 (#[.agg (atC x).toArray, .int .u8 (s[m].toNat)]) (by go_simp) (HC.out _) ?_
                  rintro e w7 ⟨rfl, hb7⟩
                  refine ⟨_, rfl, ?_⟩
                  have qa := (HG4.out.of_block (hb7.block _ HG4.out.lt)).cell (i := m) (by omega)
                  have qn := (HR4.out.of_block (hb7.block _ HR4.out.lt)).cell (i := m) (by omega)
                  have qy := (HA4.out.keep (hb7.block _ hq4)).many
                  rw [if_neg (by omega), if_pos (by omega)] at qn
                  have rf7 := (HR4.out.of_block (hb7.block _ HR4.out.lt)).frozen (m + 1)
                  have r7 := (HR4.out.of_block (hb7.block _ HR4.out.lt)).cell (i := m + 1) hil
                  rw [if_pos rfl] at r7
                  change wpAny _ _ _ _ _ _ (Act.put _ (some 59) _) _
                  simp only [Act.put, List.setIfInBounds_toArray, List.set_cons_zero, List.set_cons_succ]
                  refine wpAny_at (i := 9) (v := .bool false) (some 60) rfl rfl (by kernel_rfl) (by kernel_rfl) (by kernel_rfl) (fun _ _ _ h => h) (by kernel_rfl) (fun _ => ex_pick _ _ _ true (.bool false) (.bool false) rfl (by kernel_rfl) (by kernel_rfl) (by kernel_rfl)) ?_
                  simp only [Act.put, List.setIfInBounds_toArray, List.set_cons_zero, List.set_cons_succ]
                  refine wpAny_at (i := 10) (v := .bool false) (some 61) rfl rfl (by kernel_rfl) (by kernel_rfl) (by kernel_rfl) (fun _ _ _ h => h) (by kernel_rfl) (fun _ => ex_move _ _ rfl (by kernel_rfl)) ?_
                  simp only [Act.put, List.setIfInBounds_toArray, List.set_cons_zero, List.set_cons_succ]
                  refine wpAny_skip 11 (some 62) rfl rfl (by kernel_rfl) (by kernel_rfl) (by kernel_rfl) (fun _ _ _ h => h) (by kernel_rfl) ?_
                  simp only [Act.put, List.setIfInBounds_toArray, List.set_cons_zero, List.set_cons_succ]
                  refine wpAny_skip 12 (some 63) rfl rfl (by kernel_rfl) (by kernel_rfl) (by kernel_rfl) (fun _ _ _ h => h) (by kernel_rfl) ?_
                  simp only [Act.put, List.setIfInBounds_toArray, List.set_cons_zero, List.set_cons_succ]
                  refine wpAny_skip 13 (some 64) rfl rfl (by kernel_rfl) (by kernel_rfl) (by kernel_rfl) (fun _ _ _ h => h) (by kernel_rfl) ?_
                  simp only [Act.put, List.setIfInBounds_toArray, List.set_cons_zero, List.set_cons_succ]
                  refine wpAny_skip 14 (some 65) rfl rfl (by kernel_rfl) (by kernel_rfl) (by kernel_rfl) (fun _ _ _ h => h) (by kernel_rfl) ?_
                  simp only [Act.put, List.setIfInBounds_toArray, List.set_cons_zero, List.set_cons_succ]
                  refine wpAny_skip 15 (some 66) rfl rfl (by kernel_rfl) (by kernel_rfl) (by kernel_rfl) (fun _ _ _ h => h) (by kernel_rfl) ?_
                  simp only [Act.put, List.setIfInBounds_toArray, List.set_cons_zero, List.set_cons_succ]
                  refine wpAny_skip 16 (some 67) rfl rfl (by kernel_rfl) (by kernel_rfl) (by kernel_rfl) (fun _ _ _ h => h) (by kernel_rfl) ?_
                  simp only [Act.put, List.setIfInBounds_toArray, List.set_cons_zero, List.set_cons_succ]
                  refine wpAny_skip 17 (some 68) rfl rfl (by kernel_rfl) (by kernel_rfl) (by kernel_rfl) (fun _ _ _ h => h) (by kernel_rfl) ?_
                  simp only [Act.put, List.setIfInBounds_toArray, List.set_cons_zero, List.set_cons_succ]
                  refine wpAny_skip 18 (some 69) rfl rfl (by kernel_rfl) (by kernel_rfl) (by kernel_rfl) (fun _ _ _ h => h) (by kernel_rfl) ?_
                  simp only [Act.put, List.setIfInBounds_toArray, List.set_cons_zero, List.set_cons_succ]
                  refine wpAny_skip 19 (some 70) rfl rfl (by kernel_rfl) (by kernel_rfl) (by kernel_rfl) (fun _ _ _ h => h) (by kernel_rfl) ?_
                  simp only [Act.put, List.setIfInBounds_toArray, List.set_cons_zero, List.set_cons_succ]
                  refine wpAny_skip 20 (some 71) rfl rfl (by kernel_rfl) (by kernel_rfl) (by kernel_rfl) (fun _ _ _ h => h) (by kernel_rfl) ?_
                  simp only [Act.put, List.setIfInBounds_toArray, List.set_cons_zero, List.set_cons_succ]
                  refine wpAny_skip 21 (some 72) rfl rfl (by kernel_rfl) (by kernel_rfl) (by kernel_rfl) (fun _ _ _ h => h) (by kernel_rfl) ?_
                  simp only [Act.put, List.setIfInBounds_toArray, List.set_cons_zero, List.set_cons_succ]
                  refine wpAny_skip 22 (some 73) rfl rfl (by kernel_rfl) (by kernel_rfl) (by kernel_rfl) (fun _ _ _ h => h) (by kernel_rfl) ?_
                  simp only [Act.put, List.setIfInBounds_toArray, List.set_cons_zero, List.set_cons_succ]
                  refine wpAny_skip 23 (some 74) rfl rfl (by kernel_rfl) (by kernel_rfl) (by kernel_rfl) (fun _ _ _ h => h) (by kernel_rfl) ?_
                  simp only [Act.put, List.setIfInBounds_toArray, List.set_cons_zero, List.set_cons_succ]
                  refine wpAny_skip 24 (some 75) rfl rfl (by kernel_rfl) (by kernel_rfl) (by kernel_rfl) (fun _ _ _ h => h) (by kernel_rfl) ?_
                  simp only [Act.put, List.setIfInBounds_toArray, List.set_cons_zero, List.set_cons_succ]
                  refine wpAny_skip 25 (some 76) rfl rfl (by kernel_rfl) (by kernel_rfl) (by kernel_rfl) (fun _ _ _ h => h) (by kernel_rfl) ?_
                  simp only [Act.put, List.setIfInBounds_toArray, List.set_cons_zero, List.set_cons_succ]
                  refine wpAny_skip 26 (some 77) rfl rfl (by kernel_rfl) (by kernel_rfl) (by kernel_rfl) (fun _ _ _ h => h) (by kernel_rfl) ?_
                  simp only [Act.put, List.setIfInBounds_toArray, List.set_cons_zero, List.set_cons_succ]
                  refine wpAny_at (i := 27) (v := .bool false) (some 78) rfl rfl (by kernel_rfl) (by kernel_rfl) (by kernel_rfl) (fun _ _ _ h => h) (by kernel_rfl) (fun _ => ex_pick _ _ _ false (undef) (.bool false) rfl (by kernel_rfl) (by kernel_rfl) (by kernel_rfl)) ?_
                  simp only [Act.put, List.setIfInBounds_toArray, List.set_cons_zero, List.set_cons_succ]
                  refine wpAny_done (by kernel_rfl) ?_ _
                  go_wp2_with fail
                  have HR7 := Lib.hid (HR4.out.of_block (hb7.block _ HR4.out.lt))
                  have HG7 := Lib.hid (HG4.out.of_block (hb7.block _ HG4.out.lt))
                  have HA7 := Lib.hid (HA4.out.keep (hb7.block _ hq4))
                  have HB7 := Lib.hid (HB4.out.trans (hb7.mono HB4.out.size))
                  have HRE : Hid (w7.rowIs N 4 (s.size + 1) (fun j => .bool (if j < m + 1 + 1 then advF x s g j else false))) := HR7.out.congr fun j hj => by
                    by_cases h : j = m + 1
                    · rw [if_pos h, if_pos (by omega), h, HVE.out]
                    · rw [if_neg h]
                      by_cases h2 : j < m + 1
                      · rw [if_pos h2, if_pos (by omega)]
                      · rw [if_neg h2, if_neg (by omega)]
                  go_roundg (s.size + 1 - (m + 1 + 1))
                  case measure => omega
                  case rel => exact ⟨m + 1 + 1, by omega, by go_num, HRE.out, HG7.out, HA7.out, HB7.out, Nat.le_refl _⟩
                | true =>
                  rw [hpx] at HV
                  have HC := HC0
                  rw [hpx] at HC
                  cases hfi : g m with
                  | true =>
                    rw [hfi] at HV
                    have HVE : Hid (advF x s g (m + 1) = true) := by
                      show _ = _
                      rw [HV.out]
                      exact Bool.or_true _
                    refine wp_region_at 28 #[false, false, false, false, false, false, false, false, false, false, false, false, false, false, false, false, false, false, false, false, false, false, false, false, false, false, false, false] rfl rfl (by kernel_rfl) ?_
                    refine wpAny_at (i := 0) (v := .int .i64 ((m : Int) + 1)) (some 51) rfl rfl (by kernel_rfl) (by kernel_rfl) (by kernel_rfl) (fun _ _ _ h => h) (by kernel_rfl) (fun _ => ex_move _ _ rfl (by kernel_rfl)) ?_
                    simp only [Act.put, List.setIfInBounds_toArray, List.set_cons_zero, List.set_cons_succ]
                    refine wpAny_at (i := 1) (v := .bool true) (some 52) rfl rfl (by kernel_rfl) (by kernel_rfl) (by kernel_rfl) (fun _ _ _ h => h) (by kernel_rfl) (fun _ => ex_binOp .gtr 3 _ _ _ (.int .i64 ((m : Int) + 1)) (.int .i64 0) _ rfl (by kernel_rfl) (by kernel_rfl) (HGT.out _)) ?_
                    simp only [Act.put, List.setIfInBounds_toArray, List.set_cons_zero, List.set_cons_succ]
                    refine wpAny_at (i := 2) (v := .bool true) (some 53) rfl rfl (by kernel_rfl) (by kernel_rfl) (by kernel_rfl) (fun _ _ _ h => h) (by kernel_rfl) (fun _ => ex_move _ _ rfl (by kernel_rfl)) ?_
                    simp only [Act.put, List.setIfInBounds_toArray, List.set_cons_zero, List.set_cons_succ]
                    refine wpAny_at (i := 4) (v := .string s) (some 55) rfl rfl (by kernel_rfl) (by kernel_rfl) (by kernel_rfl) (fun _ _ _ h => h) (by kernel_rfl) (fun _ => ex_move _ _ rfl (by kernel_rfl)) ?_
                    simp only [Act.put, List.setIfInBounds_toArray, List.set_cons_zero, List.set_cons_succ]
                    refine wpAny_at (i := 5) (v := .int .i64 ((m : Int) + 1)) (some 56) rfl rfl (by kernel_rfl) (by kernel_rfl) (by kernel_rfl) (fun _ _ _ h => h) (by kernel_rfl) (fun _ => ex_move _ _ rfl (by kernel_rfl)) ?_
                    simp only [Act.put, List.setIfInBounds_toArray, List.set_cons_zero, List.set_cons_succ]
                    refine wpAny_at (i := 6) (v := .int .i64 m) (some 57) rfl rfl (by kernel_rfl) (by kernel_rfl) (by kernel_rfl) (fun _ _ _ h => h) (by kernel_rfl) (fun _ => ex_binOp .sub 3 _ _ _ (.int .i64 ((m : Int) + 1)) (.int .i64 1) _ rfl (by kernel_rfl) (by kernel_rfl) (HSB.out _)) ?_
                    simp only [Act.put, List.setIfInBounds_toArray, List.set_cons_zero, List.set_cons_succ]
                    refine wpAny_at (i := 7) (v := .int .u8 (s[m].toNat)) (some 58) rfl rfl (by kernel_rfl) (by kernel_rfl) (by kernel_rfl) (fun _ _ _ h => h) (by kernel_rfl) (fun _ => ex_index 9 _ _ (.string s) (.int .i64 m) _ rfl (by kernel_rfl) (by kernel_rfl) (HIX.out _)) ?_
                    simp only [Act.put, List.setIfInBounds_toArray, List.set_cons_zero, List.set_cons_succ]
                    refine wpAny_val 3 (some 54) (.agg (atC x).toArray) (by kernel_rfl) rfl rfl (by kernel_rfl) (ex_load 107 _ (.pointer (some ⟨q, 0, none⟩)) _ rfl (by kernel_rfl) (HLD.out)) ?_
                    simp only [Act.put, List.setIfInBounds_toArray, List.set_cons_zero, List.set_cons_succ]
                    refine wpAny_call 8 (some 59) (by kernel_rfl) rfl rfl (by kernel_rfl) 152 (#[.agg (atC x).toArray, .int .u8 (s[m].toNat)]) (by go_simp) (HC.out _) ?_
                    rintro e w7 ⟨rfl, hb7⟩
                    refine ⟨_, rfl, ?_⟩
                    have qa := (HG4.out.of_block (hb7.block _ HG4.out.lt)).cell (i := m) (by omega)
                    have qn := (HR4.out.of_block (hb7.block _ HR4.out.lt)).cell (i := m) (by omega)
                    have qy := (HA4.out.keep (hb7.block _ hq4)).many
                    rw [if_neg (by omega), if_pos (by omega)] at qn
                    rw [hfi] at qa
                    have rf7 := (HR4.out.of_block (hb7.block _ HR4.out.lt)).frozen (m + 1)
                    have r7 := (HR4.out.of_block (hb7.block _ HR4.out.lt)).cell (i := m + 1) hil
                    rw [if_pos rfl] at r7
                    change wpAny _ _ _ _ _ _ (Act.put _ (some 59) _) _
                    simp only [Act.put, List.setIfInBounds_toArray, List.set_cons_zero, List.set_cons_succ]
                    refine wpAny_at (i := 9) (v := .bool true) (some 60) rfl rfl (by kernel_rfl) (by kernel_rfl) (by kernel_rfl) (fun _ _ _ h => h) (by kernel_rfl) (fun _ => ex_pick _ _ _ true (.bool true) (.bool false) rfl (by kernel_rfl) (by kernel_rfl) (by kernel_rfl)) ?_
                    simp only [Act.put, List.setIfInBounds_toArray, List.set_cons_zero, List.set_cons_succ]
                    refine wpAny_at (i := 10) (v := .bool true) (some 61) rfl rfl (by kernel_rfl) (by kernel_rfl) (by kernel_rfl) (fun _ _ _ h => h) (by kernel_rfl) (fun _ => ex_move _ _ rfl (by kernel_rfl)) ?_
                    simp only [Act.put, List.setIfInBounds_toArray, List.set_cons_zero, List.set_cons_succ]
                    refine wpAny_at (i := 11) (v := .slice (some ⟨b, 0, none⟩) (s.size + 1) (s.size + 1)) (some 62) rfl rfl (by kernel_rfl) (by kernel_rfl) (by kernel_rfl) (fun _ _ _ h => h) (by kernel_rfl) (fun _ => ex_move _ _ rfl (by kernel_rfl)) ?_
                    simp only [Act.put, List.setIfInBounds_toArray, List.set_cons_zero, List.set_cons_succ]
                    refine wpAny_at (i := 12) (v := .int .i64 ((m : Int) + 1)) (some 63) rfl rfl (by kernel_rfl) (by kernel_rfl) (by kernel_rfl) (fun _ _ _ h => h) (by kernel_rfl) (fun _ => ex_move _ _ rfl (by kernel_rfl)) ?_
                    simp only [Act.put, List.setIfInBounds_toArray, List.set_cons_zero, List.set_cons_succ]
                    refine wpAny_at (i := 13) (v := .int .i64 m) (some 64) rfl rfl (by kernel_rfl) (by kernel_rfl) (by kernel_rfl) (fun _ _ _ h => h) (by kernel_rfl) (fun _ => ex_binOp .sub 3 _ _ _ (.int .i64 ((m : Int) + 1)) (.int .i64 1) _ rfl (by kernel_rfl) (by kernel_rfl) (HSB.out _)) ?_
                    simp only [Act.put, List.setIfInBounds_toArray, List.set_cons_zero, List.set_cons_succ]
                    refine wpAny_at (i := 14) (v := .pointer (some ⟨b, m, none⟩)) (some 65) rfl rfl (by kernel_rfl) (by kernel_rfl) (by kernel_rfl) (fun _ _ _ h => h) (by kernel_rfl) (fun _ => ex_indexAddr 134 _ _ (.slice (some ⟨b, 0, none⟩) (s.size + 1) (s.size + 1)) (.int .i64 m) _ rfl (by kernel_rfl) (by kernel_rfl) (HIB.out _)) ?_
                    simp only [Act.put, List.setIfInBounds_toArray, List.set_cons_zero, List.set_cons_succ]
                    refine wpAny_val 15 (some 66) (.bool true) (by kernel_rfl) rfl rfl (by kernel_rfl) (ex_load 4 _ (.pointer (some ⟨b, m, none⟩)) _ rfl (by kernel_rfl) (by go_simp)) ?_
                    simp only [Act.put, List.setIfInBounds_toArray, List.set_cons_zero, List.set_cons_succ]
                    refine wpAny_at (i := 16) (v := .bool true) (some 67) rfl rfl (by kernel_rfl) (by kernel_rfl) (by kernel_rfl) (fun _ _ _ h => h) (by kernel_rfl) (fun _ => ex_move _ _ rfl (by kernel_rfl)) ?_
                    simp only [Act.put, List.setIfInBounds_toArray, List.set_cons_zero, List.set_cons_succ]
                    refine wpAny_skip 17 (some 68) rfl rfl (by kernel_rfl) (by kernel_rfl) (by kernel_rfl) (fun _ _ _ h => h) (by kernel_rfl) ?_
                    simp only [Act.put, List.setIfInBounds_toArray, List.set_cons_zero, List.set_cons_succ]
                    refine wpAny_skip 18 (some 69) rfl rfl (by kernel_rfl) (by kernel_rfl) (by kernel_rfl) (fun _ _ _ h => h) (by kernel_rfl) ?_
                    simp only [Act.put, List.setIfInBounds_toArray, List.set_cons_zero, List.set_cons_succ]
                    refine wpAny_skip 19 (some 70) rfl rfl (by kernel_rfl) (by kernel_rfl) (by kernel_rfl) (fun _ _ _ h => h) (by kernel_rfl) ?_
                    simp only [Act.put, List.setIfInBounds_toArray, List.set_cons_zero, List.set_cons_succ]
                    refine wpAny_skip 20 (some 71) rfl rfl (by kernel_rfl) (by kernel_rfl) (by kernel_rfl) (fun _ _ _ h => h) (by kernel_rfl) ?_
                    simp only [Act.put, List.setIfInBounds_toArray, List.set_cons_zero, List.set_cons_succ]
                    refine wpAny_skip 21 (some 72) rfl rfl (by kernel_rfl) (by kernel_rfl) (by kernel_rfl) (fun _ _ _ h => h) (by kernel_rfl) ?_
                    simp only [Act.put, List.setIfInBounds_toArray, List.set_cons_zero, List.set_cons_succ]
                    refine wpAny_skip 22 (some 73) rfl rfl (by kernel_rfl) (by kernel_rfl) (by kernel_rfl) (fun _ _ _ h => h) (by kernel_rfl) ?_
                    simp only [Act.put, List.setIfInBounds_toArray, List.set_cons_zero, List.set_cons_succ]
                    refine wpAny_skip 23 (some 74) rfl rfl (by kernel_rfl) (by kernel_rfl) (by kernel_rfl) (fun _ _ _ h => h) (by kernel_rfl) ?_
                    simp only [Act.put, List.setIfInBounds_toArray, List.set_cons_zero, List.set_cons_succ]
                    refine wpAny_skip 24 (some 75) rfl rfl (by kernel_rfl) (by kernel_rfl) (by kernel_rfl) (fun _ _ _ h => h) (by kernel_rfl) ?_
                    simp only [Act.put, List.setIfInBounds_toArray, List.set_cons_zero, List.set_cons_succ]
                    refine wpAny_skip 25 (some 76) rfl rfl (by kernel_rfl) (by kernel_rfl) (by kernel_rfl) (fun _ _ _ h => h) (by kernel_rfl) ?_
                    simp only [Act.put, List.setIfInBounds_toArray, List.set_cons_zero, List.set_cons_succ]
                    refine wpAny_at (i := 26) (v := .bool true) (some 77) rfl rfl (by kernel_rfl) (by kernel_rfl) (by kernel_rfl) (fun _ _ _ h => h) (by kernel_rfl) (fun _ => ex_pick _ _ _ true (.bool true) (undef) rfl (by kernel_rfl) (by kernel_rfl) (by kernel_rfl)) ?_
                    simp only [Act.put, List.setIfInBounds_toArray, List.set_cons_zero, List.set_cons_succ]
                    refine wpAny_at (i := 27) (v := .bool true) (some 78) rfl rfl (by kernel_rfl) (by kernel_rfl) (by kernel_rfl) (fun _ _ _ h => h) (by kernel_rfl) (fun _ => ex_pick _ _ _ true (.bool true) (.bool false) rfl (by kernel_rfl) (by kernel_rfl) (by kernel_rfl)) ?_
                    simp only [Act.put, List.setIfInBounds_toArray, List.set_cons_zero, List.set_cons_succ]
                    refine wpAny_done (by kernel_rfl) ?_ _
                    go_wp2_with fail
                    have HR7 := Lib.hid (HR4.out.of_block (hb7.block _ HR4.out.lt))
                    have HG7 := Lib.hid (HG4.out.of_block (hb7.block _ HG4.out.lt))
                    have HA7 := Lib.hid (HA4.out.keep (hb7.block _ hq4))
                    have HB7 := Lib.hid (HB4.out.trans (hb7.mono HB4.out.size))
                    have HRE : Hid ((w7.setCell ⟨N, m + 1, none⟩ (.bool true)).rowIs N 4 (s.size + 1) (fun j => .bool (if j < m + 1 + 1 then advF x s g j else false))) := (HR7.out.set (m + 1) (.bool true)).congr fun j hj => by
                      by_cases h : j = m + 1
                      · rw [if_pos h, if_pos (by omega), h, HVE.out]
                      · rw [if_neg h, if_neg h]
                        by_cases h2 : j < m + 1
                        · rw [if_pos h2, if_pos (by omega)]
                        · rw [if_neg h2, if_neg (by omega)]
                    go_roundg (s.size + 1 - (m + 1 + 1))
                    case measure => omega
                    case rel => exact ⟨m + 1 + 1, by omega, by go_num, HRE.out, HG7.out.of_block (Below.heap_setCell _ _ _ _ (show b ≠ N by omega)), HA7.out.keep (Below.heap_setCell _ _ _ _ (show q ≠ N by omega)), HB7.out.setCell (p := ⟨N, m + 1, none⟩) (show w.heap.size ≤ N by omega) _, Nat.le_refl _⟩
                  | false =>
                    rw [hfi] at HV
                    cases hmm : x.many with
                    | false =>
                      rw [hmm] at HV
                      have HVE : Hid (advF x s g (m + 1) = gi) := by
                        show _ = _
                        rw [HV.out]
                        exact Bool.or_false _
                      refine wp_region_at 28 #[false, false, false, false, false, false, false, false, false, false, false, false, false, false, false, false, false, false, false, false, false, false, false, false, false, false, false, false] rfl rfl (by kernel_rfl) ?_
                      refine wpAny_at (i := 0) (v := .int .i64 ((m : Int) + 1)) (some 51) rfl rfl (by kernel_rfl) (by kernel_rfl) (by kernel_rfl) (fun _ _ _ h => h) (by kernel_rfl) (fun _ => ex_move _ _ rfl (by kernel_rfl)) ?_
                      simp only [Act.put, List.setIfInBounds_toArray, List.set_cons_zero, List.set_cons_succ]
                      refine wpAny_at (i := 1) (v := .bool true) (some 52) rfl rfl (by kernel_rfl) (by kernel_rfl) (by kernel_rfl) (fun _ _ _ h => h) (by kernel_rfl) (fun _ => ex_binOp .gtr 3 _ _ _ (.int .i64 ((m : Int) + 1)) (.int .i64 0) _ rfl (by kernel_rfl) (by kernel_rfl) (HGT.out _)) ?_
                      simp only [Act.put, List.setIfInBounds_toArray, List.set_cons_zero, List.set_cons_succ]
                      refine wpAny_at (i := 2) (v := .bool true) (some 53) rfl rfl (by kernel_rfl) (by kernel_rfl) (by kernel_rfl) (fun _ _ _ h => h) (by kernel_rfl) (fun _ => ex_move _ _ rfl (by kernel_rfl)) ?_
                      simp only [Act.put, List.setIfInBounds_toArray, List.set_cons_zero, List.set_cons_succ]
                      refine wpAny_at (i := 4) (v := .string s) (some 55) rfl rfl (by kernel_rfl) (by kernel_rfl) (by kernel_rfl) (fun _ _ _ h => h) (by kernel_rfl) (fun _ => ex_move _ _ rfl (by kernel_rfl)) ?_
                      simp only [Act.put, List.setIfInBounds_toArray, List.set_cons_zero, List.set_cons_succ]
                      refine wpAny_at (i := 5) (v := .int .i64 ((m : Int) + 1)) (some 56) rfl rfl (by kernel_rfl) (by kernel_rfl) (by kernel_rfl) (fun _ _ _ h => h) (by kernel_rfl) (fun _ => ex_move _ _ rfl (by kernel_rfl)) ?_
                      simp only [Act.put, List.setIfInBounds_toArray, List.set_cons_zero, List.set_cons_succ]
                      refine wpAny_at (i := 6) (v := .int .i64 m) (some 57) rfl rfl (by kernel_rfl) (by kernel_rfl) (by kernel_rfl) (fun _ _ _ h => h) (by kernel_rfl) (fun _ => ex_binOp .sub 3 _ _ _ (.int .i64 ((m : Int) + 1)) (.int .i64 1) _ rfl (by kernel_rfl) (by kernel_rfl) (HSB.out _)) ?_
                      simp only [Act.put, List.setIfInBounds_toArray, List.set_cons_zero, List.set_cons_succ]
                      refine wpAny_at (i := 7) (v := .int .u8 (s[m].toNat)) (some 58) rfl rfl (by kernel_rfl) (by kernel_rfl) (by kernel_rfl) (fun _ _ _ h => h) (by kernel_rfl) (fun _ => ex_index 9 _ _ (.string s) (.int .i64 m) _ rfl (by kernel_rfl) (by kernel_rfl) (HIX.out _)) ?_
                      simp only [Act.put, List.setIfInBounds_toArray, List.set_cons_zero, List.set_cons_succ]
                      refine wpAny_val 3 (some 54) (.agg (atC x).toArray) (by kernel_rfl) rfl rfl (by kernel_rfl) (ex_load 107 _ (.pointer (some ⟨q, 0, none⟩)) _ rfl (by kernel_rfl) (HLD.out)) ?_
                      simp only [Act.put, List.setIfInBounds_toArray, List.set_cons_zero, List.set_cons_succ]
                      refine wpAny_call 8 (some 59) (by kernel_rfl) rfl rfl (by kernel_rfl) 152 (#[.agg (atC x).toArray, .int .u8 (s[m].toNat)]) (by go_simp) (HC.out _) ?_
                      rintro e w7 ⟨rfl, hb7⟩
                      refine ⟨_, rfl, ?_⟩
                      have qa := (HG4.out.of_block (hb7.block _ HG4.out.lt)).cell (i := m) (by omega)
                      have qn := (HR4.out.of_block (hb7.block _ HR4.out.lt)).cell (i := m) (by omega)
                      have qy := (HA4.out.keep (hb7.block _ hq4)).many
                      rw [if_neg (by omega), if_pos (by omega)] at qn
                      rw [hfi] at qa
                      rw [hmm] at qy
                      have rf7 := (HR4.out.of_block (hb7.block _ HR4.out.lt)).frozen (m + 1)
                      have r7 := (HR4.out.of_block (hb7.block _ HR4.out.lt)).cell (i := m + 1) hil
                      rw [if_pos rfl] at r7
                      change wpAny _ _ _ _ _ _ (Act.put _ (some 59) _) _
                      simp only [Act.put, List.setIfInBounds_toArray, List.set_cons_zero, List.set_cons_succ]
                      refine wpAny_at (i := 9) (v := .bool true) (some 60) rfl rfl (by kernel_rfl) (by kernel_rfl) (by kernel_rfl) (fun _ _ _ h => h) (by kernel_rfl) (fun _ => ex_pick _ _ _ true (.bool true) (.bool false) rfl (by kernel_rfl) (by kernel_rfl) (by kernel_rfl)) ?_
                      simp only [Act.put, List.setIfInBounds_toArray, List.set_cons_zero, List.set_cons_succ]
                      refine wpAny_at (i := 10) (v := .bool true) (some 61) rfl rfl (by kernel_rfl) (by kernel_rfl) (by kernel_rfl) (fun _ _ _ h => h) (by kernel_rfl) (fun _ => ex_move _ _ rfl (by kernel_rfl)) ?_
                      simp only [Act.put, List.setIfInBounds_toArray, List.set_cons_zero, List.set_cons_succ]
                      refine wpAny_at (i := 11) (v := .slice (some ⟨b, 0, none⟩) (s.size + 1) (s.size + 1)) (some 62) rfl rfl (by kernel_rfl) (by kernel_rfl) (by kernel_rfl) (fun _ _ _ h => h) (by kernel_rfl) (fun _ => ex_move _ _ rfl (by kernel_rfl)) ?_
                      simp only [Act.put, List.setIfInBounds_toArray, List.set_cons_zero, List.set_cons_succ]
                      refine wpAny_at (i := 12) (v := .int .i64 ((m : Int) + 1)) (some 63) rfl rfl (by kernel_rfl) (by kernel_rfl) (by kernel_rfl) (fun _ _ _ h => h) (by kernel_rfl) (fun _ => ex_move _ _ rfl (by kernel_rfl)) ?_
                      simp only [Act.put, List.setIfInBounds_toArray, List.set_cons_zero, List.set_cons_succ]
                      refine wpAny_at (i := 13) (v := .int .i64 m) (some 64) rfl rfl (by kernel_rfl) (by kernel_rfl) (by kernel_rfl) (fun _ _ _ h => h) (by kernel_rfl) (fun _ => ex_binOp .sub 3 _ _ _ (.int .i64 ((m : Int) + 1)) (.int .i64 1) _ rfl (by kernel_rfl) (by kernel_rfl) (HSB.out _)) ?_
                      simp only [Act.put, List.setIfInBounds_toArray, List.set_cons_zero, List.set_cons_succ]
                      refine wpAny_at (i := 14) (v := .pointer (some ⟨b, m, none⟩)) (some 65) rfl rfl (by kernel_rfl) (by kernel_rfl) (by kernel_rfl) (fun _ _ _ h => h) (by kernel_rfl) (fun _ => ex_indexAddr 134 _ _ (.slice (some ⟨b, 0, none⟩) (s.size + 1) (s.size + 1)) (.int .i64 m) _ rfl (by kernel_rfl) (by kernel_rfl) (HIB.out _)) ?_
                      simp only [Act.put, List.setIfInBounds_toArray, List.set_cons_zero, List.set_cons_succ]
                      refine wpAny_val 15 (some 66) (.bool false) (by kernel_rfl) rfl rfl (by kernel_rfl) (ex_load 4 _ (.pointer (some ⟨b, m, none⟩)) _ rfl (by kernel_rfl) (by go_simp)) ?_
                      simp only [Act.put, List.setIfInBounds_toArray, List.set_cons_zero, List.set_cons_succ]
                      refine wpAny_at (i := 16) (v := .bool false) (some 67) rfl rfl (by kernel_rfl) (by kernel_rfl) (by kernel_rfl) (fun _ _ _ h => h) (by kernel_rfl) (fun _ => ex_move _ _ rfl (by kernel_rfl)) ?_
                      simp only [Act.put, List.setIfInBounds_toArray, List.set_cons_zero, List.set_cons_succ]
                      refine wpAny_at (i := 17) (v := .pointer (some ⟨q, 33, none⟩)) (some 68) rfl rfl (by kernel_rfl) (by kernel_rfl) (by kernel_rfl) (fun _ _ _ h => h) (by kernel_rfl) (fun _ => ex_fieldAddr 107 _ 2 (.pointer (some ⟨q, 0, none⟩)) _ rfl (by kernel_rfl) (by go_simp)) ?_
                      simp only [Act.put, List.setIfInBounds_toArray, List.set_cons_zero, List.set_cons_succ]
                      refine wpAny_val 18 (some 69) (.bool false) (by kernel_rfl) rfl rfl (by kernel_rfl) (ex_load 4 _ (.pointer (some ⟨q, 33, none⟩)) _ rfl (by kernel_rfl) (by go_simp)) ?_
                      simp only [Act.put, List.setIfInBounds_toArray, List.set_cons_zero, List.set_cons_succ]
                      refine wpAny_at (i := 19) (v := .bool false) (some 70) rfl rfl (by kernel_rfl) (by kernel_rfl) (by kernel_rfl) (fun _ _ _ h => h) (by kernel_rfl) (fun _ => ex_move _ _ rfl (by kernel_rfl)) ?_
                      simp only [Act.put, List.setIfInBounds_toArray, List.set_cons_zero, List.set_cons_succ]
                      refine wpAny_skip 20 (some 71) rfl rfl (by kernel_rfl) (by kernel_rfl) (by kernel_rfl) (fun _ _ _ h => h) (by kernel_rfl) ?_
                      simp only [Act.put, List.setIfInBounds_toArray, List.set_cons_zero, List.set_cons_succ]
                      refine wpAny_skip 21 (some 72) rfl rfl (by kernel_rfl) (by kernel_rfl) (by kernel_rfl) (fun _ _ _ h => h) (by kernel_rfl) ?_
                      simp only [Act.put, List.setIfInBounds_toArray, List.set_cons_zero, List.set_cons_succ]
                      refine wpAny_skip 22 (some 73) rfl rfl (by kernel_rfl) (by kernel_rfl) (by kernel_rfl) (fun _ _ _ h => h) (by kernel_rfl) ?_
                      simp only [Act.put, List.setIfInBounds_toArray, List.set_cons_zero, List.set_cons_succ]
                      refine wpAny_skip 23 (some 74) rfl rfl (by kernel_rfl) (by kernel_rfl) (by kernel_rfl) (fun _ _ _ h => h) (by kernel_rfl) ?_
                      simp only [Act.put, List.setIfInBounds_toArray, List.set_cons_zero, List.set_cons_succ]
                      refine wpAny_skip 24 (some 75) rfl rfl (by kernel_rfl) (by kernel_rfl) (by kernel_rfl) (fun _ _ _ h => h) (by kernel_rfl) ?_
                      simp only [Act.put, List.setIfInBounds_toArray, List.set_cons_zero, List.set_cons_succ]
                      refine wpAny_at (i := 25) (v := .bool false) (some 76) rfl rfl (by kernel_rfl) (by kernel_rfl) (by kernel_rfl) (fun _ _ _ h => h) (by kernel_rfl) (fun _ => ex_pick _ _ _ false (undef) (.bool false) rfl (by kernel_rfl) (by kernel_rfl) (by kernel_rfl)) ?_
                      simp only [Act.put, List.setIfInBounds_toArray, List.set_cons_zero, List.set_cons_succ]
                      refine wpAny_at (i := 26) (v := .bool false) (some 77) rfl rfl (by kernel_rfl) (by kernel_rfl) (by kernel_rfl) (fun _ _ _ h => h) (by kernel_rfl) (fun _ => ex_pick _ _ _ false (.bool true) (.bool false) rfl (by kernel_rfl) (by kernel_rfl) (by kernel_rfl)) ?_
                      simp only [Act.put, List.setIfInBounds_toArray, List.set_cons_zero, List.set_cons_succ]
                      refine wpAny_at (i := 27) (v := .bool false) (some 78) rfl rfl (by kernel_rfl) (by kernel_rfl) (by kernel_rfl) (fun _ _ _ h => h) (by kernel_rfl) (fun _ => ex_pick _ _ _ true (.bool false) (.bool false) rfl (by kernel_rfl) (by kernel_rfl) (by kernel_rfl)) ?_
                      simp only [Act.put, List.setIfInBounds_toArray, List.set_cons_zero, List.set_cons_succ]
                      refine wpAny_done (by kernel_rfl) ?_ _
                      go_wp2_with fail
                      have HR7 := Lib.hid (HR4.out.of_block (hb7.block _ HR4.out.lt))
                      have HG7 := Lib.hid (HG4.out.of_block (hb7.block _ HG4.out.lt))
                      have HA7 := Lib.hid (HA4.out.keep (hb7.block _ hq4))
                      have HB7 := Lib.hid (HB4.out.trans (hb7.mono HB4.out.size))
                      have HRE : Hid (w7.rowIs N 4 (s.size + 1) (fun j => .bool (if j < m + 1 + 1 then advF x s g j else false))) := HR7.out.congr fun j hj => by
                        by_cases h : j = m + 1
                        · rw [if_pos h, if_pos (by omega), h, HVE.out]
                        · rw [if_neg h]
                          by_cases h2 : j < m + 1
                          · rw [if_pos h2, if_pos (by omega)]
                          · rw [if_neg h2, if_neg (by omega)]
                      go_roundg (s.size + 1 - (m + 1 + 1))
                      case measure => omega
                      case rel => exact ⟨m + 1 + 1, by omega, by go_num, HRE.out, HG7.out, HA7.out, HB7.out, Nat.le_refl _⟩
                    | true =>
                      rw [hmm] at HV
                      cases hni : advF x s g m with
                      | true =>
                        rw [hni] at HV
                        have HVE : Hid (advF x s g (m + 1) = true) := by
                          show _ = _
                          rw [HV.out]
                          exact Bool.or_true _
                        refine wp_region_at 28 #[false, false, false, false, false, false, false, false, false, false, false, false, false, false, false, false, false, false, false, false, false, false, false, false, false, false, false, false] rfl rfl (by kernel_rfl) ?_
                        refine wpAny_at (i := 0) (v := .int .i64 ((m : Int) + 1)) (some 51) rfl rfl (by kernel_rfl) (by kernel_rfl) (by kernel_rfl) (fun _ _ _ h => h) (by kernel_rfl) (fun _ => ex_move _ _ rfl (by kernel_rfl)) ?_
                        simp only [Act.put, List.setIfInBounds_toArray, List.set_cons_zero, List.set_cons_succ]
                        refine wpAny_at (i := 1) (v := .bool true) (some 52) rfl rfl (by kernel_rfl) (by kernel_rfl) (by kernel_rfl) (fun _ _ _ h => h) (by kernel_rfl) (fun _ => ex_binOp .gtr 3 _ _ _ (.int .i64 ((m : Int) + 1)) (.int .i64 0) _ rfl (by kernel_rfl) (by kernel_rfl) (HGT.out _)) ?_
                        simp only [Act.put, List.setIfInBounds_toArray, List.set_cons_zero, List.set_cons_succ]
                        refine wpAny_at (i := 2) (v := .bool true) (some 53) rfl rfl (by kernel_rfl) (by kernel_rfl) (by kernel_rfl) (fun _ _ _ h => h) (by kernel_rfl) (fun _ => ex_move _ _ rfl (by kernel_rfl)) ?_
                        simp only [Act.put, List.setIfInBounds_toArray, List.set_cons_zero, List.set_cons_succ]
                        refine wpAny_at (i := 4) (v := .string s) (some 55) rfl rfl (by kernel_rfl) (by kernel_rfl) (by kernel_rfl) (fun _ _ _ h => h) (by kernel_rfl) (fun _ => ex_move _ _ rfl (by kernel_rfl)) ?_
                        simp only [Act.put, List.setIfInBounds_toArray, List.set_cons_zero, List.set_cons_succ]
                        refine wpAny_at (i := 5) (v := .int .i64 ((m : Int) + 1)) (some 56) rfl rfl (by kernel_rfl) (by kernel_rfl) (by kernel_rfl) (fun _ _ _ h => h) (by kernel_rfl) (fun _ => ex_move _ _ rfl (by kernel_rfl)) ?_
                        simp only [Act.put, List.setIfInBounds_toArray, List.set_cons_zero, List.set_cons_succ]
                        refine wpAny_at (i := 6) (v := .int .i64 m) (some 57) rfl rfl (by kernel_rfl) (by kernel_rfl) (by kernel_rfl) (fun _ _ _ h => h) (by kernel_rfl) (fun _ => ex_binOp .sub 3 _ _ _ (.int .i64 ((m : Int) + 1)) (.int .i64 1) _ rfl (by kernel_rfl) (by kernel_rfl) (HSB.out _)) ?_
                        simp only [Act.put, List.setIfInBounds_toArray, List.set_cons_zero, List.set_cons_succ]
                        refine wpAny_at (i := 7) (v := .int .u8 (s[m].toNat)) (some 58) rfl rfl (by kernel_rfl) (by kernel_rfl) (by kernel_rfl) (fun _ _ _ h => h) (by kernel_rfl) (fun _ => ex_index 9 _ _ (.string s) (.int .i64 m) _ rfl (by kernel_rfl) (by kernel_rfl) (HIX.out _)) ?_
                        simp only [Act.put, List.setIfInBounds_toArray, List.set_cons_zero, List.set_cons_succ]
                        refine wpAny_val 3 (some 54) (.agg (atC x).toArray) (by kernel_rfl) rfl rfl (by kernel_rfl) (ex_load 107 _ (.pointer (some ⟨q, 0, none⟩)) _ rfl (by kernel_rfl) (HLD.out)) ?_
                        simp only [Act.put, List.setIfInBounds_toArray, List.set_cons_zero, List.set_cons_succ]
                        refine wpAny_call 8 (some 59) (by kernel_rfl) rfl rfl (by kernel_rfl) 152 (#[.agg (atC x).toArray, .int .u8 (s[m].toNat)]) (by go_simp) (HC.out _) ?_
                        rintro e w7 ⟨rfl, hb7⟩
                        refine ⟨_, rfl, ?_⟩
                        have qa := (HG4.out.of_block (hb7.block _ HG4.out.lt)).cell (i := m) (by omega)
                        have qn := (HR4.out.of_block (hb7.block _ HR4.out.lt)).cell (i := m) (by omega)
                        have qy := (HA4.out.keep (hb7.block _ hq4)).many
                        rw [if_neg (by omega), if_pos (by omega)] at qn
                        rw [hfi] at qa
                        rw [hmm] at qy
                        rw [hni] at qn
                        have rf7 := (HR4.out.of_block (hb7.block _ HR4.out.lt)).frozen (m + 1)
                        have r7 := (HR4.out.of_block (hb7.block _ HR4.out.lt)).cell (i := m + 1) hil
                        rw [if_pos rfl] at r7
                        change wpAny _ _ _ _ _ _ (Act.put _ (some 59) _) _
                        simp only [Act.put, List.setIfInBounds_toArray, List.set_cons_zero, List.set_cons_succ]
                        refine wpAny_at (i := 9) (v := .bool true) (some 60) rfl rfl (by kernel_rfl) (by kernel_rfl) (by kernel_rfl) (fun _ _ _ h => h) (by kernel_rfl) (fun _ => ex_pick _ _ _ true (.bool true) (.bool false) rfl (by kernel_rfl) (by kernel_rfl) (by kernel_rfl)) ?_
                        simp only [Act.put, List.setIfInBounds_toArray, List.set_cons_zero, List.set_cons_succ]
                        refine wpAny_at (i := 10) (v := .bool true) (some 61) rfl rfl (by kernel_rfl) (by kernel_rfl) (by kernel_rfl) (fun _ _ _ h => h) (by kernel_rfl) (fun _ => ex_move _ _ rfl (by kernel_rfl)) ?_
                        simp only [Act.put, List.setIfInBounds_toArray, List.set_cons_zero, List.set_cons_succ]
                        refine wpAny_at (i := 11) (v := .slice (some ⟨b, 0, none⟩) (s.size + 1) (s.size + 1)) (some 62) rfl rfl (by kernel_rfl) (by kernel_rfl) (by kernel_rfl) (fun _ _ _ h => h) (by kernel_rfl) (fun _ => ex_move _ _ rfl (by kernel_rfl)) ?_
                        simp only [Act.put, List.setIfInBounds_toArray, List.set_cons_zero, List.set_cons_succ]
                        refine wpAny_at (i := 12) (v := .int .i64 ((m : Int) + 1)) (some 63) rfl rfl (by kernel_rfl) (by kernel_rfl) (by kernel_rfl) (fun _ _ _ h => h) (by kernel_rfl) (fun _ => ex_move _ _ rfl (by kernel_rfl)) ?_
                        simp only [Act.put, List.setIfInBounds_toArray, List.set_cons_zero, List.set_cons_succ]
                        refine wpAny_at (i := 13) (v := .int .i64 m) (some 64) rfl rfl (by kernel_rfl) (by kernel_rfl) (by kernel_rfl) (fun _ _ _ h => h) (by kernel_rfl) (fun _ => ex_binOp .sub 3 _ _ _ (.int .i64 ((m : Int) + 1)) (.int .i64 1) _ rfl (by kernel_rfl) (by kernel_rfl) (HSB.out _)) ?_
                        simp only [Act.put, List.setIfInBounds_toArray, List.set_cons_zero, List.set_cons_succ]
                        refine wpAny_at (i := 14) (v := .pointer (some ⟨b, m, none⟩)) (some 65) rfl rfl (by kernel_rfl) (by kernel_rfl) (by kernel_rfl) (fun _ _ _ h => h) (by kernel_rfl) (fun _ => ex_indexAddr 134 _ _ (.slice (some ⟨b, 0, none⟩) (s.size + 1) (s.size + 1)) (.int .i64 m) _ rfl (by kernel_rfl) (by kernel_rfl) (HIB.out _)) ?_
                        simp only [Act.put, List.setIfInBounds_toArray, List.set_cons_zero, List.set_cons_succ]
                        refine wpAny_val 15 (some 66) (.bool false) (by kernel_rfl) rfl rfl (by kernel_rfl) (ex_load 4 _ (.pointer (some ⟨b, m, none⟩)) _ rfl (by kernel_rfl) (by go_simp)) ?_
                        simp only [Act.put, List.setIfInBounds_toArray, List.set_cons_zero, List.set_cons_succ]
                        refine wpAny_at (i := 16) (v := .bool false) (some 67) rfl rfl (by kernel_rfl) (by kernel_rfl) (by kernel_rfl) (fun _ _ _ h => h) (by kernel_rfl) (fun _ => ex_move _ _ rfl (by kernel_rfl)) ?_
                        simp only [Act.put, List.setIfInBounds_toArray, List.set_cons_zero, List.set_cons_succ]
                        refine wpAny_at (i := 17) (v := .pointer (some ⟨q, 33, none⟩)) (some 68) rfl rfl (by kernel_rfl) (by kernel_rfl) (by kernel_rfl) (fun _ _ _ h => h) (by kernel_rfl) (fun _ => ex_fieldAddr 107 _ 2 (.pointer (some ⟨q, 0, none⟩)) _ rfl (by kernel_rfl) (by go_simp)) ?_
                        simp only [Act.put, List.setIfInBounds_toArray, List.set_cons_zero, List.set_cons_succ]
                        refine wpAny_val 18 (some 69) (.bool true) (by kernel_rfl) rfl rfl (by kernel_rfl) (ex_load 4 _ (.pointer (some ⟨q, 33, none⟩)) _ rfl (by kernel_rfl) (by go_simp)) ?_
                        simp only [Act.put, List.setIfInBounds_toArray, List.set_cons_zero, List.set_cons_succ]
                        refine wpAny_at (i := 19) (v := .bool true) (some 70) rfl rfl (by kernel_rfl) (by kernel_rfl) (by kernel_rfl) (fun _ _ _ h => h) (by kernel_rfl) (fun _ => ex_move _ _ rfl (by kernel_rfl)) ?_
                        simp only [Act.put, List.setIfInBounds_toArray, List.set_cons_zero, List.set_cons_succ]
                        refine wpAny_at (i := 20) (v := .slice (some ⟨N, 0, none⟩) (s.size + 1) (s.size + 1)) (some 71) rfl rfl (by kernel_rfl) (by kernel_rfl) (by kernel_rfl) (fun _ _ _ h => h) (by kernel_rfl) (fun _ => ex_move _ _ rfl (by kernel_rfl)) ?_
                        simp only [Act.put, List.setIfInBounds_toArray, List.set_cons_zero, List.set_cons_succ]
                        refine wpAny_at (i := 21) (v := .int .i64 ((m : Int) + 1)) (some 72) rfl rfl (by kernel_rfl) (by kernel_rfl) (by kernel_rfl) (fun _ _ _ h => h) (by kernel_rfl) (fun _ => ex_move _ _ rfl (by kernel_rfl)) ?_
                        simp only [Act.put, List.setIfInBounds_toArray, List.set_cons_zero, List.set_cons_succ]
                        refine wpAny_at (i := 22) (v := .int .i64 m) (some 73) rfl rfl (by kernel_rfl) (by kernel_rfl) (by kernel_rfl) (fun _ _ _ h => h) (by kernel_rfl) (fun _ => ex_binOp .sub 3 _ _ _ (.int .i64 ((m : Int) + 1)) (.int .i64 1) _ rfl (by kernel_rfl) (by kernel_rfl) (HSB.out _)) ?_
                        simp only [Act.put, List.setIfInBounds_toArray, List.set_cons_zero, List.set_cons_succ]
                        refine wpAny_at (i := 23) (v := .pointer (some ⟨N, m, none⟩)) (some 74) rfl rfl (by kernel_rfl) (by kernel_rfl) (by kernel_rfl) (fun _ _ _ h => h) (by kernel_rfl) (fun _ => ex_indexAddr 134 _ _ (.slice (some ⟨N, 0, none⟩) (s.size + 1) (s.size + 1)) (.int .i64 m) _ rfl (by kernel_rfl) (by kernel_rfl) (HIN.out _)) ?_
                        simp only [Act.put, List.setIfInBounds_toArray, List.set_cons_zero, List.set_cons_succ]
                        refine wpAny_val 24 (some 75) (.bool true) (by kernel_rfl) rfl rfl (by kernel_rfl) (ex_load 4 _ (.pointer (some ⟨N, m, none⟩)) _ rfl (by kernel_rfl) (by go_simp)) ?_
                        simp only [Act.put, List.setIfInBounds_toArray, List.set_cons_zero, List.set_cons_succ]
                        refine wpAny_at (i := 25) (v := .bool true) (some 76) rfl rfl (by kernel_rfl) (by kernel_rfl) (by kernel_rfl) (fun _ _ _ h => h) (by kernel_rfl) (fun _ => ex_pick _ _ _ true (.bool true) (.bool false) rfl (by kernel_rfl) (by kernel_rfl) (by kernel_rfl)) ?_
                        simp only [Act.put, List.setIfInBounds_toArray, List.set_cons_zero, List.set_cons_succ]
                        refine wpAny_at (i := 26) (v := .bool true) (some 77) rfl rfl (by kernel_rfl) (by kernel_rfl) (by kernel_rfl) (fun _ _ _ h => h) (by kernel_rfl) (fun _ => ex_pick _ _ _ false (.bool true) (.bool true) rfl (by kernel_rfl) (by kernel_rfl) (by kernel_rfl)) ?_
                        simp only [Act.put, List.setIfInBounds_toArray, List.set_cons_zero, List.set_cons_succ]
                        refine wpAny_at (i := 27) (v := .bool true) (some 78) rfl rfl (by kernel_rfl) (by kernel_rfl) (by kernel_rfl) (fun _ _ _ h => h) (by kernel_rfl) (fun _ => ex_pick _ _ _ true (.bool true) (.bool false) rfl (by kernel_rfl) (by kernel_rfl) (by kernel_rfl)) ?_
                        simp only [Act.put, List.setIfInBounds_toArray, List.set_cons_zero, List.set_cons_succ]
                        refine wpAny_done (by kernel_rfl) ?_ _
                        go_wp2_with fail
                        have HR7 := Lib.hid (HR4.out.of_block (hb7.block _ HR4.out.lt))
                        have HG7 := Lib.hid (HG4.out.of_block (hb7.block _ HG4.out.lt))
                        have HA7 := Lib.hid (HA4.out.keep (hb7.block _ hq4))
                        have HB7 := Lib.hid (HB4.out.trans (hb7.mono HB4.out.size))
                        have HRE : Hid ((w7.setCell ⟨N, m + 1, none⟩ (.bool true)).rowIs N 4 (s.size + 1) (fun j => .bool (if j < m + 1 + 1 then advF x s g j else false))) := (HR7.out.set (m + 1) (.bool true)).congr fun j hj => by
                          by_cases h : j = m + 1
                          · rw [if_pos h, if_pos (by omega), h, HVE.out]
                          · rw [if_neg h, if_neg h]
                            by_cases h2 : j < m + 1
                            · rw [if_pos h2, if_pos (by omega)]
                            · rw [if_neg h2, if_neg (by omega)]
                        go_roundg (s.size + 1 - (m + 1 + 1))
                        case measure => omega
                        case rel => exact ⟨m + 1 + 1, by omega, by go_num, HRE.out, HG7.out.of_block (Below.heap_setCell _ _ _ _ (show b ≠ N by omega)), HA7.out.keep (Below.heap_setCell _ _ _ _ (show q ≠ N by omega)), HB7.out.setCell (p := ⟨N, m + 1, none⟩) (show w.heap.size ≤ N by omega) _, Nat.le_refl _⟩
                      | false =>
                        rw [hni] at HV
                        have HVE : Hid (advF x s g (m + 1) = gi) := by
                          show _ = _
                          rw [HV.out]
                          exact Bool.or_false _
                        refine wp_region_at 28 #[false, false, false, false, false, false, false, false, false, false, false, false, false, false, false, false, false, false, false, false, false, false, false, false, false, false, false, false] rfl rfl (by kernel_rfl) ?_
                        refine wpAny_at (i := 0) (v := .int .i64 ((m : Int) + 1)) (some 51) rfl rfl (by kernel_rfl) (by kernel_rfl) (by kernel_rfl) (fun _ _ _ h => h) (by kernel_rfl) (fun _ => ex_move _ _ rfl (by kernel_rfl)) ?_
                        simp only [Act.put, List.setIfInBounds_toArray, List.set_cons_zero, List.set_cons_succ]
                        refine wpAny_at (i := 1) (v := .bool true) (some 52) rfl rfl (by kernel_rfl) (by kernel_rfl) (by kernel_rfl) (fun _ _ _ h => h) (by kernel_rfl) (fun _ => ex_binOp .gtr 3 _ _ _ (.int .i64 ((m : Int) + 1)) (.int .i64 0) _ rfl (by kernel_rfl) (by kernel_rfl) (HGT.out _)) ?_
                        simp only [Act.put, List.setIfInBounds_toArray, List.set_cons_zero, List.set_cons_succ]
                        refine wpAny_at (i := 2) (v := .bool true) (some 53) rfl rfl (by kernel_rfl) (by kernel_rfl) (by kernel_rfl) (fun _ _ _ h => h) (by kernel_rfl) (fun _ => ex_move _ _ rfl (by kernel_rfl)) ?_
                        simp only [Act.put, List.setIfInBounds_toArray, List.set_cons_zero, List.set_cons_succ]
                        refine wpAny_at (i := 4) (v := .string s) (some 55) rfl rfl (by kernel_rfl) (by kernel_rfl) (by kernel_rfl) (fun _ _ _ h => h) (by kernel_rfl) (fun _ => ex_move _ _ rfl (by kernel_rfl)) ?_
                        simp only [Act.put, List.setIfInBounds_toArray, List.set_cons_zero, List.set_cons_succ]
                        refine wpAny_at (i := 5) (v := .int .i64 ((m : Int) + 1)) (some 56) rfl rfl (by kernel_rfl) (by kernel_rfl) (by kernel_rfl) (fun _ _ _ h => h) (by kernel_rfl) (fun _ => ex_move _ _ rfl (by kernel_rfl)) ?_
                        simp only [Act.put, List.setIfInBounds_toArray, List.set_cons_zero, List.set_cons_succ]
                        refine wpAny_at (i := 6) (v := .int .i64 m) (some 57) rfl rfl (by kernel_rfl) (by kernel_rfl) (by kernel_rfl) (fun _ _ _ h => h) (by kernel_rfl) (fun _ => ex_binOp .sub 3 _ _ _ (.int .i64 ((m : Int) + 1)) (.int .i64 1) _ rfl (by kernel_rfl) (by kernel_rfl) (HSB.out _)) ?_
                        simp only [Act.put, List.setIfInBounds_toArray, List.set_cons_zero, List.set_cons_succ]
                        refine wpAny_at (i := 7) (v := .int .u8 (s[m].toNat)) (some 58) rfl rfl (by kernel_rfl) (by kernel_rfl) (by kernel_rfl) (fun _ _ _ h => h) (by kernel_rfl) (fun _ => ex_index 9 _ _ (.string s) (.int .i64 m) _ rfl (by kernel_rfl) (by kernel_rfl) (HIX.out _)) ?_
                        simp only [Act.put, List.setIfInBounds_toArray, List.set_cons_zero, List.set_cons_succ]
                        refine wpAny_val 3 (some 54) (.agg (atC x).toArray) (by kernel_rfl) rfl rfl (by kernel_rfl) (ex_load 107 _ (.pointer (some ⟨q, 0, none⟩)) _ rfl (by kernel_rfl) (HLD.out)) ?_
                        simp only [Act.put, List.setIfInBounds_toArray, List.set_cons_zero, List.set_cons_succ]
                        refine wpAny_call 8 (some 59) (by kernel_rfl) rfl rfl (by kernel_rfl) 152 (#[.agg (atC x).toArray, .int .u8 (s[m].toNat)]) (by go_simp) (HC.out _) ?_
                        rintro e w7 ⟨rfl, hb7⟩
                        refine ⟨_, rfl, ?_⟩
                        have qa := (HG4.out.of_block (hb7.block _ HG4.out.lt)).cell (i := m) (by omega)
                        have qn := (HR4.out.of_block (hb7.block _ HR4.out.lt)).cell (i := m) (by omega)
                        have qy := (HA4.out.keep (hb7.block _ hq4)).many
                        rw [if_neg (by omega), if_pos (by omega)] at qn
                        rw [hfi] at qa
                        rw [hmm] at qy
                        rw [hni] at qn
                        have rf7 := (HR4.out.of_block (hb7.block _ HR4.out.lt)).frozen (m + 1)
                        have r7 := (HR4.out.of_block (hb7.block _ HR4.out.lt)).cell (i := m + 1) hil
                        rw [if_pos rfl] at r7
                        change wpAny _ _ _ _ _ _ (Act.put _ (some 59) _) _
                        simp only [Act.put, List.setIfInBounds_toArray, List.set_cons_zero, List.set_cons_succ]
                        refine wpAny_at (i := 9) (v := .bool true) (some 60) rfl rfl (by kernel_rfl) (by kernel_rfl) (by kernel_rfl) (fun _ _ _ h => h) (by kernel_rfl) (fun _ => ex_pick _ _ _ true (.bool true) (.bool false) rfl (by kernel_rfl) (by kernel_rfl) (by kernel_rfl)) ?_
                        simp only [Act.put, List.setIfInBounds_toArray, List.set_cons_zero, List.set_cons_succ]
                        refine wpAny_at (i := 10) (v := .bool true) (some 61) rfl rfl (by kernel_rfl) (by kernel_rfl) (by kernel_rfl) (fun _ _ _ h => h) (by kernel_rfl) (fun _ => ex_move _ _ rfl (by kernel_rfl)) ?_
                        simp only [Act.put, List.setIfInBounds_toArray, List.set_cons_zero, List.set_cons_succ]
                        refine wpAny_at (i := 11) (v := .slice (some ⟨b, 0, none⟩) (s.size + 1) (s.size + 1)) (some 62) rfl rfl (by kernel_rfl) (by kernel_rfl) (by kernel_rfl) (fun _ _ _ h => h) (by kernel_rfl) (fun _ => ex_move _ _ rfl (by kernel_rfl)) ?_
                        simp only [Act.put, List.setIfInBounds_toArray, List.set_cons_zero, List.set_cons_succ]
                        refine wpAny_at (i := 12) (v := .int .i64 ((m : Int) + 1)) (some 63) rfl rfl (by kernel_rfl) (by kernel_rfl) (by kernel_rfl) (fun _ _ _ h => h) (by kernel_rfl) (fun _ => ex_move _ _ rfl (by kernel_rfl)) ?_
                        simp only [Act.put, List.setIfInBounds_toArray, List.set_cons_zero, List.set_cons_succ]
                        refine wpAny_at (i := 13) (v := .int .i64 m) (some 64) rfl rfl (by kernel_rfl) (by kernel_rfl) (by kernel_rfl) (fun _ _ _ h => h) (by kernel_rfl) (fun _ => ex_binOp .sub 3 _ _ _ (.int .i64 ((m : Int) + 1)) (.int .i64 1) _ rfl (by kernel_rfl) (by kernel_rfl) (HSB.out _)) ?_
                        simp only [Act.put, List.setIfInBounds_toArray, List.set_cons_zero, List.set_cons_succ]
                        refine wpAny_at (i := 14) (v := .pointer (some ⟨b, m, none⟩)) (some 65) rfl rfl (by kernel_rfl) (by kernel_rfl) (by kernel_rfl) (fun _ _ _ h => h) (by kernel_rfl) (fun _ => ex_indexAddr 134 _ _ (.slice (some ⟨b, 0, none⟩) (s.size + 1) (s.size + 1)) (.int .i64 m) _ rfl (by kernel_rfl) (by kernel_rfl) (HIB.out _)) ?_
                        simp only [Act.put, List.setIfInBounds_toArray, List.set_cons_zero, List.set_cons_succ]
                        refine wpAny_val 15 (some 66) (.bool false) (by kernel_rfl) rfl rfl (by kernel_rfl) (ex_load 4 _ (.pointer (some ⟨b, m, none⟩)) _ rfl (by kernel_rfl) (by go_simp)) ?_
                        simp only [Act.put, List.setIfInBounds_toArray, List.set_cons_zero, List.set_cons_succ]
                        refine wpAny_at (i := 16) (v := .bool false) (some 67) rfl rfl (by kernel_rfl) (by kernel_rfl) (by kernel_rfl) (fun _ _ _ h => h) (by kernel_rfl) (fun _ => ex_move _ _ rfl (by kernel_rfl)) ?_
                        simp only [Act.put, List.setIfInBounds_toArray, List.set_cons_zero, List.set_cons_succ]
                        refine wpAny_at (i := 17) (v := .pointer (some ⟨q, 33, none⟩)) (some 68) rfl rfl (by kernel_rfl) (by kernel_rfl) (by kernel_rfl) (fun _ _ _ h => h) (by kernel_rfl) (fun _ => ex_fieldAddr 107 _ 2 (.pointer (some ⟨q, 0, none⟩)) _ rfl (by kernel_rfl) (by go_simp)) ?_
                        simp only [Act.put, List.setIfInBounds_toArray, List.set_cons_zero, List.set_cons_succ]
                        refine wpAny_val 18 (some 69) (.bool true) (by kernel_rfl) rfl rfl (by kernel_rfl) (ex_load 4 _ (.pointer (some ⟨q, 33, none⟩)) _ rfl (by kernel_rfl) (by go_simp)) ?_
                        simp only [Act.put, List.setIfInBounds_toArray, List.set_cons_zero, List.set_cons_succ]
                        refine wpAny_at (i := 19) (v := .bool true) (some 70) rfl rfl (by kernel_rfl) (by kernel_rfl) (by kernel_rfl) (fun _ _ _ h => h) (by kernel_rfl) (fun _ => ex_move _ _ rfl (by kernel_rfl)) ?_
                        simp only [Act.put, List.setIfInBounds_toArray, List.set_cons_zero, List.set_cons_succ]
                        refine wpAny_at (i := 20) (v := .slice (some ⟨N, 0, none⟩) (s.size + 1) (s.size + 1)) (some 71) rfl rfl (by kernel_rfl) (by kernel_rfl) (by kernel_rfl) (fun _ _ _ h => h) (by kernel_rfl) (fun _ => ex_move _ _ rfl (by kernel_rfl)) ?_
                        simp only [Act.put, List.setIfInBounds_toArray, List.set_cons_zero, List.set_cons_succ]
                        refine wpAny_at (i := 21) (v := .int .i64 ((m : Int) + 1)) (some 72) rfl rfl (by kernel_rfl) (by kernel_rfl) (by kernel_rfl) (fun _ _ _ h => h) (by kernel_rfl) (fun _ => ex_move _ _ rfl (by kernel_rfl)) ?_
                        simp only [Act.put, List.setIfInBounds_toArray, List.set_cons_zero, List.set_cons_succ]
                        refine wpAny_at (i := 22) (v := .int .i64 m) (some 73) rfl rfl (by kernel_rfl) (by kernel_rfl) (by kernel_rfl) (fun _ _ _ h => h) (by kernel_rfl) (fun _ => ex_binOp .sub 3 _ _ _ (.int .i64 ((m : Int) + 1)) (.int .i64 1) _ rfl (by kernel_rfl) (by kernel_rfl) (HSB.out _)) ?_
                        simp only [Act.put, List.setIfInBounds_toArray, List.set_cons_zero, List.set_cons_succ]
                        refine wpAny_at (i := 23) (v := .pointer (some ⟨N, m, none⟩)) (some 74) rfl rfl (by kernel_rfl) (by kernel_rfl) (by kernel_rfl) (fun _ _ _ h => h) (by kernel_rfl) (fun _ => ex_indexAddr 134 _ _ (.slice (some ⟨N, 0, none⟩) (s.size + 1) (s.size + 1)) (.int .i64 m) _ rfl (by kernel_rfl) (by kernel_rfl) (HIN.out _)) ?_
                        simp only [Act.put, List.setIfInBounds_toArray, List.set_cons_zero, List.set_cons_succ]
                        refine wpAny_val 24 (some 75) (.bool false) (by kernel_rfl) rfl rfl (by kernel_rfl) (ex_load 4 _ (.pointer (some ⟨N, m, none⟩)) _ rfl (by kernel_rfl) (by go_simp)) ?_
                        simp only [Act.put, List.setIfInBounds_toArray, List.set_cons_zero, List.set_cons_succ]
                        refine wpAny_at (i := 25) (v := .bool false) (some 76) rfl rfl (by kernel_rfl) (by kernel_rfl) (by kernel_rfl) (fun _ _ _ h => h) (by kernel_rfl) (fun _ => ex_pick _ _ _ true (.bool false) (.bool false) rfl (by kernel_rfl) (by kernel_rfl) (by kernel_rfl)) ?_
                        simp only [Act.put, List.setIfInBounds_toArray, List.set_cons_zero, List.set_cons_succ]
                        refine wpAny_at (i := 26) (v := .bool false) (some 77) rfl rfl (by kernel_rfl) (by kernel_rfl) (by kernel_rfl) (fun _ _ _ h => h) (by kernel_rfl) (fun _ => ex_pick _ _ _ false (.bool true) (.bool false) rfl (by kernel_rfl) (by kernel_rfl) (by kernel_rfl)) ?_
                        simp only [Act.put, List.setIfInBounds_toArray, List.set_cons_zero, List.set_cons_succ]
                        refine wpAny_at (i := 27) (v := .bool false) (some 78) rfl rfl (by kernel_rfl) (by kernel_rfl) (by kernel_rfl) (fun _ _ _ h => h) (by kernel_rfl) (fun _ => ex_pick _ _ _ true (.bool false) (.bool false) rfl (by kernel_rfl) (by kernel_rfl) (by kernel_rfl)) ?_
                        simp only [Act.put, List.setIfInBounds_toArray, List.set_cons_zero, List.set_cons_succ]
                        refine wpAny_done (by kernel_rfl) ?_ _
                        go_wp2_with fail
                        have HR7 := Lib.hid (HR4.out.of_block (hb7.block _ HR4.out.lt))
                        have HG7 := Lib.hid (HG4.out.of_block (hb7.block _ HG4.out.lt))
                        have HA7 := Lib.hid (HA4.out.keep (hb7.block _ hq4))
                        have HB7 := Lib.hid (HB4.out.trans (hb7.mono HB4.out.size))
                        have HRE : Hid (w7.rowIs N 4 (s.size + 1) (fun j => .bool (if j < m + 1 + 1 then advF x s g j else false))) := HR7.out.congr fun j hj => by
                          by_cases h : j = m + 1
                          · rw [if_pos h, if_pos (by omega), h, HVE.out]
                          · rw [if_neg h]
                            by_cases h2 : j < m + 1
                            · rw [if_pos h2, if_pos (by omega)]
                            · rw [if_neg h2, if_neg (by omega)]
                        go_roundg (s.size + 1 - (m + 1 + 1))
                        case measure => omega
                        case rel => exact ⟨m + 1 + 1, by omega, by go_num, HRE.out, HG7.out, HA7.out, HB7.out, Nat.le_refl _⟩
            · have HBI : Hid ((decide (x.mn < 1) && g i) = false) := by show _ = _; rw [decide_eq_false hm]; rfl
              have HR1 : Hid ((wr.setCell ⟨N, i, none⟩ (.bool false)).rowIs N 4 (s.size + 1) (fun j => .bool (if j = i then false else if j < i then advF x s g j else false))) := (HR.out.set i (.bool false)).congr fun j hj => by
                by_cases h : j = i
                · rw [if_pos h, if_pos h]
                · rw [if_neg h, if_neg h]
              have HG1 := Lib.hid (HG.out.of_block (w' := (wr.setCell ⟨N, i, none⟩ (.bool false))) (Below.heap_setCell _ _ _ _ (show b ≠ N by omega)))
              have HA1 : Hid (AtIn (wr.setCell ⟨N, i, none⟩ (.bool false)) q x) := HA.out.keep (Below.heap_setCell _ _ _ _ (show q ≠ N by omega))
              have HB1 : Hid (Below w.heap.size w (wr.setCell ⟨N, i, none⟩ (.bool false))) := HB.out.setCell (p := ⟨N, i, none⟩) (show w.heap.size ≤ N by omega) _
              have hN4 : N < (wr.setCell ⟨N, i, none⟩ (.bool false)).heap.size := HR1.out.lt
              go_upto_region 15 with fail
              clear HR HG HA HB qm qg r0 rf hgi
              generalize (wr.setCell ⟨N, i, none⟩ (.bool false)) = w4 at HR1 HG1 HA1 HB1 hN4 ⊢
              rcases i with _ | m
              · have HVE : Hid (advF x s g 0 = false) := by show _ = _; rw [adv_zero, HBI.out]
                refine wp_region_at 28 #[false, false, false, false, false, false, false, false, false, false, false, false, false, false, false, false, false, false, false, false, false, false, false, false, false, false, false, false] rfl rfl (by kernel_rfl) ?_
                refine wpAny_at (i := 0) (v := .int .i64 0) (some 51) rfl rfl (by kernel_rfl) (by kernel_rfl) (by kernel_rfl) (fun _ _ _ h => h) (by kernel_rfl) (fun _ => ex_move _ _ rfl (by kernel_rfl)) ?_
                simp only [Act.put, List.setIfInBounds_toArray, List.set_cons_zero, List.set_cons_succ]
                refine wpAny_at (i := 1) (v := .bool false) (some 52) rfl rfl (by kernel_rfl) (by kernel_rfl) (by kernel_rfl) (fun _ _ _ h => h) (by kernel_rfl) (fun _ => ex_binOp .gtr 3 _ _ _ (.int .i64 0) (.int .i64 0) _ rfl (by kernel_rfl) (by kernel_rfl) (by go_simp)) ?_
                simp only [Act.put, List.setIfInBounds_toArray, List.set_cons_zero, List.set_cons_succ]
                refine wpAny_at (i := 2) (v := .bool false) (some 53) rfl rfl (by kernel_rfl) (by kernel_rfl) (by kernel_rfl) (fun _ _ _ h => h) (by kernel_rfl) (fun _ => ex_move _ _ rfl (by kernel_rfl)) ?_
                simp only [Act.put, List.setIfInBounds_toArray, List.set_cons_zero, List.set_cons_succ]
                refine wpAny_skip 3 (some 54) rfl rfl (by kernel_rfl) (by kernel_rfl) (by kernel_rfl) (fun _ _ _ h => h) (by kernel_rfl) ?_
                simp only [Act.put, List.setIfInBounds_toArray, List.set_cons_zero, List.set_cons_succ]
                refine wpAny_skip 4 (some 55) rfl rfl (by kernel_rfl) (by kernel_rfl) (by kernel_rfl) (fun _ _ _ h => h) (by kernel_rfl) ?_
                simp only [Act.put, List.setIfInBounds_toArray, List.set_cons_zero, List.set_cons_succ]
                refine wpAny_skip 5 (some 56) rfl rfl (by kernel_rfl) (by kernel_rfl) (by kernel_rfl) (fun _ _ _ h => h) (by kernel_rfl) ?_
                simp only [Act.put, List.setIfInBounds_toArray, List.set_cons_zero, List.set_cons_succ]
                refine wpAny_skip 6 (some 57) rfl rfl (by kernel_rfl) (by kernel_rfl) (by kernel_rfl) (fun _ _ _ h => h) (by kernel_rfl) ?_
                simp only [Act.put, List.setIfInBounds_toArray, List.set_cons_zero, List.set_cons_succ]
                refine wpAny_skip 7 (some 58) rfl rfl (by kernel_rfl) (by kernel_rfl) (by kernel_rfl) (fun _ _ _ h => h) (by kernel_rfl) ?_
                simp only [Act.put, List.setIfInBounds_toArray, List.set_cons_zero, List.set_cons_succ]
                refine wpAny_skip 8 (some 59) rfl rfl (by kernel_rfl) (by kernel_rfl) (by kernel_rfl) (fun _ _ _ h => h) (by kernel_rfl) ?_
                simp only [Act.put, List.setIfInBounds_toArray, List.set_cons_zero, List.set_cons_succ]
                refine wpAny_at (i := 9) (v := .bool false) (some 60) rfl rfl (by kernel_rfl) (by kernel_rfl) (by kernel_rfl) (fun _ _ _ h => h) (by kernel_rfl) (fun _ => ex_pick _ _ _ false (undef) (.bool false) rfl (by kernel_rfl) (by kernel_rfl) (by kernel_rfl)) ?_
                simp only [Act.put, List.setIfInBounds_toArray, List.set_cons_zero, List.set_cons_succ]
                refine wpAny_at (i := 10) (v := .bool false) (some 61) rfl rfl (by kernel_rfl) (by kernel_rfl) (by kernel_rfl) (fun _ _ _ h => h) (by kernel_rfl) (fun _ => ex_move _ _ rfl (by kernel_rfl)) ?_
                simp only [Act.put, List.setIfInBounds_toArray, List.set_cons_zero, List.set_cons_succ]
                refine wpAny_skip 11 (some 62) rfl rfl (by kernel_rfl) (by kernel_rfl) (by kernel_rfl) (fun _ _ _ h => h) (by kernel_rfl) ?_
                simp only [Act.put, List.setIfInBounds_toArray, List.set_cons_zero, List.set_cons_succ]
                refine wpAny_skip 12 (some 63) rfl rfl (by kernel_rfl) (by kernel_rfl) (by kernel_rfl) (fun _ _ _ h => h) (by kernel_rfl) ?_
                simp only [Act.put, List.setIfInBounds_toArray, List.set_cons_zero, List.set_cons_succ]
                refine wpAny_skip 13 (some 64) rfl rfl (by kernel_rfl) (by kernel_rfl) (by kernel_rfl) (fun _ _ _ h => h) (by kernel_rfl) ?_
                simp only [Act.put, List.setIfInBounds_toArray, List.set_cons_zero, List.set_cons_succ]
                refine wpAny_skip 14 (some 65) rfl rfl (by kernel_rfl) (by kernel_rfl) (by kernel_rfl) (fun _ _ _ h => h) (by kernel_rfl) ?_
                simp only [Act.put, List.setIfInBounds_toArray, List.set_cons_zero, List.set_cons_succ]
                refine wpAny_skip 15 (some 66) rfl rfl (by kernel_rfl) (by kernel_rfl) (by kernel_rfl) (fun _ _ _ h => h) (by kernel_rfl) ?_
                simp only [Act.put, List.setIfInBounds_toArray, List.set_cons_zero, List.set_cons_succ]
                refine wpAny_skip 16 (some 67) rfl rfl (by kernel_rfl) (by kernel_rfl) (by kernel_rfl) (fun _ _ _ h => h) (by kernel_rfl) ?_
                simp only [Act.put, List.setIfInBounds_toArray, List.set_cons_zero, List.set_cons_succ]
                refine wpAny_skip 17 (some 68) rfl rfl (by kernel_rfl) (by kernel_rfl) (by kernel_rfl) (fun _ _ _ h => h) (by kernel_rfl) ?_
                simp only [Act.put, List.setIfInBounds_toArray, List.set_cons_zero, List.set_cons_succ]
                refine wpAny_skip 18 (some 69) rfl rfl (by kernel_rfl) (by kernel_rfl) (by kernel_rfl) (fun _ _ _ h => h) (by kernel_rfl) ?_
                simp only [Act.put, List.setIfInBounds_toArray, List.set_cons_zero, List.set_cons_succ]
                refine wpAny_skip 19 (some 70) rfl rfl (by kernel_rfl) (by kernel_rfl) (by kernel_rfl) (fun _ _ _ h => h) (by kernel_rfl) ?_
                simp only [Act.put, List.setIfInBounds_toArray, List.set_cons_zero, List.set_cons_succ]
                refine wpAny_skip 20 (some 71) rfl rfl (by kernel_rfl) (by kernel_rfl) (by kernel_rfl) (fun _ _ _ h => h) (by kernel_rfl) ?_
                simp only [Act.put, List.setIfInBounds_toArray, List.set_cons_zero, List.set_cons_succ]
                refine wpAny_skip 21 (some 72) rfl rfl (by kernel_rfl) (by kernel_rfl) (by kernel_rfl) (fun _ _ _ h => h) (by kernel_rfl) ?_
                simp only [Act.put, List.setIfInBounds_toArray, List.set_cons_zero, List.set_cons_succ]
                refine wpAny_skip 22 (some 73) rfl rfl (by kernel_rfl) (by kernel_rfl) (by kernel_rfl) (fun _ _ _ h => h) (by kernel_rfl) ?_
                simp only [Act.put, List.setIfInBounds_toArray, List.set_cons_zero, List.set_cons_succ]
                refine wpAny_skip 23 (some 74) rfl rfl (by kernel_rfl) (by kernel_rfl) (by kernel_rfl) (fun _ _ _ h => h) (by kernel_rfl) ?_
                simp only [Act.put, List.setIfInBounds_toArray, List.set_cons_zero, List.set_cons_succ]
                refine wpAny_skip 24 (some 75) rfl rfl (by kernel_rfl) (by kernel_rfl) (by kernel_rfl) (fun _ _ _ h => h) (by kernel_rfl) ?_
                simp only [Act.put, List.setIfInBounds_toArray, List.set_cons_zero, List.set_cons_succ]
                refine wpAny_skip 25 (some 76) rfl rfl (by kernel_rfl) (by kernel_rfl) (by kernel_rfl) (fun _ _ _ h => h) (by kernel_rfl) ?_
                simp only [Act.put, List.setIfInBounds_toArray, List.set_cons_zero, List.set_cons_succ]
                refine wpAny_skip 26 (some 77) rfl rfl (by kernel_rfl) (by kernel_rfl) (by kernel_rfl) (fun _ _ _ h => h) (by kernel_rfl) ?_
                simp only [Act.put, List.setIfInBounds_toArray, List.set_cons_zero, List.set_cons_succ]
                refine wpAny_at (i := 27) (v := .bool false) (some 78) rfl rfl (by kernel_rfl) (by kernel_rfl) (by kernel_rfl) (fun _ _ _ h => h) (by kernel_rfl) (fun _ => ex_pick _ _ _ false (undef) (.bool false) rfl (by kernel_rfl) (by kernel_rfl) (by kernel_rfl)) ?_
                simp only [Act.put, List.setIfInBounds_toArray, List.set_cons_zero, List.set_cons_succ]
                refine wpAny_done (by kernel_rfl) ?_ _
                have HRE : Hid (w4.drew.rowIs N 4 (s.size + 1) (fun j => .bool (if j < 0 + 1 then advF x s g j else false))) := HR1.out.congr fun j hj => by
                  by_cases h : j = 0
                  · rw [if_pos h, if_pos (by omega), h, HVE.out]
                  · rw [if_neg h, if_neg (by omega), if_neg (by omega)]
                go_wp2_with fail
                go_roundg (s.size + 1 - (0 + 1))
                case measure => omega
                case rel => exact ⟨0 + 1, by omega, by go_num, HRE.out, HG1.out.drew, HA1.out, HB1.out.drew, Nat.le_refl _⟩
              · have hms : m < s.size := by omega
                have hmsi : (m : Int) < (s.size : Int) := by omega
                have hm0 : (0 : Int) ≤ (m : Int) := by omega
                have hc1 : ((m + 1 : Nat) : Int) = (m : Int) + 1 := by omega
                rw [hc1]
                have HLD := Lib.hid (run_loadAt_mid (P := Tryz.prog) w4.drew q 0 107 (atC x) _ (at_range HA1.out) hu rfl (by rw [hi, atC_len]))
                have HGT : Hid (∀ w, (do eqGuard .gtr 3 (.tmp 51) (.const (.int .i64 0)) (.int .i64 ((m : Int) + 1)) (.int .i64 0); Go.binOp .gtr 3 (.int .i64 ((m : Int) + 1)) (.int .i64 0) : Sem Value).run Tryz.prog w = .ok (.bool true) w) := by
                  have h1 : (0 : Int) < (m : Int) + 1 := by omega
                  show ∀ w, _ = _
                  intro w
                  go_simp
                have HSB : Hid (∀ {x y : Operand} (w : World), (do eqGuard .sub 3 x y (.int .i64 ((m : Int) + 1)) (.int .i64 1); Go.binOp .sub 3 (.int .i64 ((m : Int) + 1)) (.int .i64 1) : Sem Value).run Tryz.prog w = .ok (.int .i64 m) w) := by
                  show ∀ (x y : Operand) (w : World), _ = _
                  intro x y w
                  go_simp
                  rw [IntKind.wrap_i64]
                  omega
                have HIX : Hid (∀ w, (Instr.index 9 (.string s) (.int .i64 m)).run Tryz.prog w = .ok (.int .u8 (s[m].toNat)) w) := by
                  show ∀ w, _ = _
                  intro w
                  go_simp
                have hmi2 : (m : Int) < (s.size : Int) + 1 := by omega
                have HIB : Hid (∀ w, (Instr.indexAt 134 (.slice (some ⟨b, 0, none⟩) (s.size + 1) (s.size + 1)) (.int .i64 m)).run Tryz.prog w = .ok (.pointer (some ⟨b, m, none⟩)) w) := by
                  show ∀ w, _ = _
                  intro w
                  go_simp
                have HIN : Hid (∀ w, (Instr.indexAt 134 (.slice (some ⟨N, 0, none⟩) (s.size + 1) (s.size + 1)) (.int .i64 m)).run Tryz.prog w = .ok (.pointer (some ⟨N, m, none⟩)) w) := by
                  show ∀ w, _ = _
                  intro w
                  go_simp
                have HV : Hid (advF x s g (m + 1) = (false || (x.p (s[m].toNat) && (g m || (x.many && advF x s g m))))) := by
                  show _ = _
                  rw [adv_own, HBI.out, bt_get s m hms]
                have HC0 := Lib.hid (fun w => contains_any x (s[m].toNat) w (UInt8.toNat_lt _))
                have HR4 : Hid (w4.drew.rowIs N 4 (s.size + 1) (fun j => .bool (if j = m + 1 then false else if j < m + 1 then advF x s g j else false))) := HR1.out
                have HG4 : Hid (w4.drew.rowIs b 4 (s.size + 1) (fun j => .bool (g j))) := HG1.out
                have HA4 : Hid (AtIn w4.drew q x) := HA1.out
                have HB4 : Hid (Below w.heap.size w w4.drew) := HB1.out.drew
                have hq4 : q < w4.drew.heap.size := (Array.getElem?_eq_some_iff.1 HA1.out).1
                have hN5 : N < w4.drew.heap.size := hN4
                clear HR1 HG1 HA1 HB1 hN4
                cases hpx : x.p (s[m].toNat) with
                | false =>
                  rw [hpx] at HV
                  have HC := HC0
                  rw [hpx] at HC
                  have HVE : Hid (advF x s g (m + 1) = false) := by
                    show _ = _
                    rw [HV.out]
                    exact Bool.or_false _
                  refine wp_region_at 28 #[false, false, false, false, false, false, false, false, false, false, false, false, false, false, false, false, false, false, false, false, false, false, false, false, false, false, false, false] rfl rfl (by kernel_rfl) ?_
                  refine wpAny_at (i := 0) (v := .int .i64 ((m : Int) + 1)) (some 51) rfl rfl (by kernel_rfl) (by kernel_rfl) (by kernel_rfl) (fun _ _ _ h => h) (by kernel_rfl) (fun _ => ex_move _ _ rfl (by kernel_rfl)) ?_
                  simp only [Act.put, List.setIfInBounds_toArray, List.set_cons_zero, List.set_cons_succ]
                  refine wpAny_at (i := 1) (v := .bool true) (some 52) rfl rfl (by kernel_rfl) (by kernel_rfl) (by kernel_rfl) (fun _ _ _ h => h) (by kernel_rfl) (fun _ => ex_binOp .gtr 3 _ _ _ (.int .i64 ((m : Int) + 1)) (.int .i64 0) _ rfl (by kernel_rfl) (by kernel_rfl) (HGT.out _)) ?_
                  simp only [Act.put, List.setIfInBounds_toArray, List.set_cons_zero, List.set_cons_succ]
                  refine wpAny_at (i := 2) (v := .bool true) (some 53) rfl rfl (by kernel_rfl) (by kernel_rfl) (by kernel_rfl) (fun _ _ _ h => h) (by kernel_rfl) (fun _ => ex_move _ _ rfl (by kernel_rfl)) ?_
                  simp only [Act.put, List.setIfInBounds_toArray, List.set_cons_zero, List.set_cons_succ]
                  refine wpAny_at (i := 4) (v := .string s) (some 55) rfl rfl (by kernel_rfl) (by kernel_rfl) (by kernel_rfl) (fun _ _ _ h => h) (by kernel_rfl) (fun _ => ex_move _ _ rfl (by kernel_rfl)) ?_
                  simp only [Act.put, List.setIfInBounds_toArray, List.set_cons_zero, List.set_cons_succ]
                  refine wpAny_at (i := 5) (v := .int .i64 ((m : Int) + 1)) (some 56) rfl rfl (by kernel_rfl) (by kernel_rfl) (by kernel_rfl) (fun _ _ _ h => h) (by kernel_rfl) (fun _ => ex_move _ _ rfl (by kernel_rfl)) ?_
                  simp only [Act.put, List.setIfInBounds_toArray, List.set_cons_zero, List.set_cons_succ]
                  refine wpAny_at (i := 6) (v := .int .i64 m) (some 57) rfl rfl (by kernel_rfl) (by kernel_rfl) (by kernel_rfl) (fun _ _ _ h => h) (by kernel_rfl) (fun _ => ex_binOp .sub 3 _ _ _ (.int .i64 ((m : Int) + 1)) (.int .i64 1) _ rfl (by kernel_rfl) (by kernel_rfl) (HSB.out _)) ?_
                  simp only [Act.put, List.setIfInBounds_toArray, List.set_cons_zero, List.set_cons_succ]
                  refine wpAny_at (i := 7) (v := .int .u8 (s[m].toNat)) (some 58) rfl rfl (by kernel_rfl) (by kernel_rfl) (by kernel_rfl) (fun _ _ _ h => h) (by kernel_rfl) (fun _ => ex_index 9 _ _ (.string s) (.int .i64 m) _ rfl (by kernel_rfl) (by kernel_rfl) (HIX.out _)) ?_
                  simp only [Act.put, List.setIfInBounds_toArray, List.set_cons_zero, List.set_cons_succ]
                  refine wpAny_val 3 (some 54) (.agg (atC x).toArray) (by kernel_rfl) rfl rfl (by kernel_rfl) (ex_load 107 _ (.pointer (some ⟨q, 0, none⟩)) _ rfl (by kernel_rfl) (HLD.out)) ?_
                  simp only [Act.put, List.setIfInBounds_toArray, List.set_cons_zero, List.set_cons_succ]
                  refine wpAny_call 8 (some 59) (by kernel_rfl) rfl rfl (by kernel_rfl) 152 (#[.agg (atC x).toArray, .int .u8 (s[m].toNat)]) (by go_simp) (HC.out _) ?_
                  rintro e w7 ⟨rfl, hb7⟩
                  refine ⟨_, rfl, ?_⟩
                  have qa := (HG4.out.of_block (hb7.block _ HG4.out.lt)).cell (i := m) (by omega)
                  have qn := (HR4.out.of_block (hb7.block _ HR4.out.lt)).cell (i := m) (by omega)
                  have qy := (HA4.out.keep (hb7.block _ hq4)).many
                  rw [if_neg (by omega), if_pos (by omega)] at qn
                  have rf7 := (HR4.out.of_block (hb7.block _ HR4.out.lt)).frozen (m + 1)
                  have r7 := (HR4.out.of_block (hb7.block _ HR4.out.lt)).cell (i := m + 1) hil
                  rw [if_pos rfl] at r7
                  change wpAny _ _ _ _ _ _ (Act.put _ (some 59) _) _
                  simp only [Act.put, List.setIfInBounds_toArray, List.set_cons_zero, List.set_cons_succ]
                  refine wpAny_at (i := 9) (v := .bool false) (some 60) rfl rfl (by kernel_rfl) (by kernel_rfl) (by kernel_rfl) (fun _ _ _ h => h) (by kernel_rfl) (fun _ => ex_pick _ _ _ true (.bool false) (.bool false) rfl (by kernel_rfl) (by kernel_rfl) (by kernel_rfl)) ?_
                  simp only [Act.put, List.setIfInBounds_toArray, List.set_cons_zero, List.set_cons_succ]
                  refine wpAny_at (i := 10) (v := .bool false) (some 61) rfl rfl (by kernel_rfl) (by kernel_rfl) (by kernel_rfl) (fun _ _ _ h => h) (by kernel_rfl) (fun _ => ex_move _ _ rfl (by kernel_rfl)) ?_
                  simp only [Act.put, List.setIfInBounds_toArray, List.set_cons_zero, List.set_cons_succ]
                  refine wpAny_skip 11 (some 62) rfl rfl (by kernel_rfl) (by kernel_rfl) (by kernel_rfl) (fun _ _ _ h => h) (by kernel_rfl) ?_
                  simp only [Act.put, List.setIfInBounds_toArray, List.set_cons_zero, List.set_cons_succ]
                  refine wpAny_skip 12 (some 63) rfl rfl (by kernel_rfl) (by kernel_rfl) (by kernel_rfl) (fun _ _ _ h => h) (by kernel_rfl) ?_
                  simp only [Act.put, List.setIfInBounds_toArray, List.set_cons_zero, List.set_cons_succ]
                  refine wpAny_skip 13 (some 64) rfl rfl (by kernel_rfl) (by kernel_rfl) (by kernel_rfl) (fun _ _ _ h => h) (by kernel_rfl) ?_
                  simp only [Act.put, List.setIfInBounds_toArray, List.set_cons_zero, List.set_cons_succ]
                  refine wpAny_skip 14 (some 65) rfl rfl (by kernel_rfl) (by kernel_rfl) (by kernel_rfl) (fun _ _ _ h => h) (by kernel_rfl) ?_
                  simp only [Act.put, List.setIfInBounds_toArray, List.set_cons_zero, List.set_cons_succ]
                  refine wpAny_skip 15 (some 66) rfl rfl (by kernel_rfl) (by kernel_rfl) (by kernel_rfl) (fun _ _ _ h => h) (by kernel_rfl) ?_
                  simp only [Act.put, List.setIfInBounds_toArray, List.set_cons_zero, List.set_cons_succ]
                  refine wpAny_skip 16 (some 67) rfl rfl (by kernel_rfl) (by kernel_rfl) (by kernel_rfl) (fun _ _ _ h => h) (by kernel_rfl) ?_
                  simp only [Act.put, List.setIfInBounds_toArray, List.set_cons_zero, List.set_cons_succ]
                  refine wpAny_skip 17 (some 68) rfl rfl (by kernel_rfl) (by kernel_rfl) (by kernel_rfl) (fun _ _ _ h => h) (by kernel_rfl) ?_
                  simp only [Act.put, List.setIfInBounds_toArray, List.set_cons_zero, List.set_cons_succ]
                  refine wpAny_skip 18 (some 69) rfl rfl (by kernel_rfl) (by kernel_rfl) (by kernel_rfl) (fun _ _ _ h => h) (by kernel_rfl) ?_
                  simp only [Act.put, List.setIfInBounds_toArray, List.set_cons_zero, List.set_cons_succ]
                  refine wpAny_skip 19 (some 70) rfl rfl (by kernel_rfl) (by kernel_rfl) (by kernel_rfl) (fun _ _ _ h => h) (by kernel_rfl) ?_
                  simp only [Act.put, List.setIfInBounds_toArray, List.set_cons_zero, List.set_cons_succ]
                  refine wpAny_skip 20 (some 71) rfl rfl (by kernel_rfl) (by kernel_rfl) (by kernel_rfl) (fun _ _ _ h => h) (by kernel_rfl) ?_
                  simp only [Act.put, List.setIfInBounds_toArray, List.set_cons_zero, List.set_cons_succ]
                  refine wpAny_skip 21 (some 72) rfl rfl (by kernel_rfl) (by kernel_rfl) (by kernel_rfl) (fun _ _ _ h => h) (by kernel_rfl) ?_
                  simp only [Act.put, List.setIfInBounds_toArray, List.set_cons_zero, List.set_cons_succ]
                  refine wpAny_skip 22 (some 73) rfl rfl (by kernel_rfl) (by kernel_rfl) (by kernel_rfl) (fun _ _ _ h => h) (by kernel_rfl) ?_
                  simp only [Act.put, List.setIfInBounds_toArray, List.set_cons_zero, List.set_cons_succ]
                  refine wpAny_skip 23 (some 74) rfl rfl (by kernel_rfl) (by kernel_rfl) (by kernel_rfl) (fun _ _ _ h => h) (by kernel_rfl) ?_
                  simp only [Act.put, List.setIfInBounds_toArray, List.set_cons_zero, List.set_cons_succ]
                  refine wpAny_skip 24 (some 75) rfl rfl (by kernel_rfl) (by kernel_rfl) (by kernel_rfl) (fun _ _ _ h => h) (by kernel_rfl) ?_
                  simp only [Act.put, List.setIfInBounds_toArray, List.set_cons_zero, List.set_cons_succ]
                  refine wpAny_skip 25 (some 76) rfl rfl (by kernel_rfl) (by kernel_rfl) (by kernel_rfl) (fun _ _ _ h => h) (by kernel_rfl) ?_
                  simp only [Act.put, List.setIfInBounds_toArray, List.set_cons_zero, List.set_cons_succ]
                  refine wpAny_skip 26 (some 77) rfl rfl (by kernel_rfl) (by kernel_rfl) (by kernel_rfl) (fun _ _ _ h => h) (by kernel_rfl) ?_
                  simp only [Act.put, List.setIfInBounds_toArray, List.set_cons_zero, List.set_cons_succ]
                  refine wpAny_at (i := 27) (v := .bool false) (some 78) rfl rfl (by kernel_rfl) (by kernel_rfl) (by kernel_rfl) (fun _ _ _ h => h) (by kernel_rfl) (fun _ => ex_pick _ _ _ false (undef) (.bool false) rfl (by kernel_rfl) (by kernel_rfl) (by kernel_rfl)) ?_
                  simp only [Act.put, List.setIfInBounds_toArray, List.set_cons_zero, List.set_cons_succ]
                  refine wpAny_done (by kernel_rfl) ?_ _
                  go_wp2_with fail
                  have HR7 := Lib.hid (HR4.out.of_block (hb7.block _ HR4.out.lt))
                  have HG7 := Lib.hid (HG4.out.of_block (hb7.block _ HG4.out.lt))
                  have HA7 := Lib.hid (HA4.out.keep (hb7.block _ hq4))
                  have HB7 := Lib.hid (HB4.out.trans (hb7.mono HB4.out.size))
                  have HRE : Hid (w7.rowIs N 4 (s.size + 1) (fun j => .bool (if j < m + 1 + 1 then advF x s g j else false))) := HR7.out.congr fun j hj => by
                    by_cases h : j = m + 1
                    · rw [if_pos h, if_pos (by omega), h, HVE.out]
                    · rw [if_neg h]
                      by_cases h2 : j < m + 1
                      · rw [if_pos h2, if_pos (by omega)]
                      · rw [if_neg h2, if_neg (by omega)]
                  go_roundg (s.size + 1 - (m + 1 + 1))
                  case measure => omega
                  case rel => exact ⟨m + 1 + 1, by omega, by go_num, HRE.out, HG7.out, HA7.out, HB7.out, Nat.le_refl _⟩
                | true =>
                  rw [hpx] at HV
                  have HC := HC0
                  rw [hpx] at HC
                  cases hfi : g m with
                  | true =>
                    rw [hfi] at HV
                    have HVE : Hid (advF x s g (m + 1) = true) := by
                      show _ = _
                      rw [HV.out]
                      exact Bool.or_true _
                    refine wp_region_at 28 #[false, false, false, false, false, false, false, false, false, false, false, false, false, false, false, false, false, false, false, false, false, false, false, false, false, false, false, false] rfl rfl (by kernel_rfl) ?_
                    refine wpAny_at (i := 0) (v := .int .i64 ((m : Int) + 1)) (some 51) rfl rfl (by kernel_rfl) (by kernel_rfl) (by kernel_rfl) (fun _ _ _ h => h) (by kernel_rfl) (fun _ => ex_move _ _ rfl (by kernel_rfl)) ?_
                    simp only [Act.put, List.setIfInBounds_toArray, List.set_cons_zero, List.set_cons_succ]
                    refine wpAny_at (i := 1) (v := .bool true) (some 52) rfl rfl (by kernel_rfl) (by kernel_rfl) (by kernel_rfl) (fun _ _ _ h => h) (by kernel_rfl) (fun _ => ex_binOp .gtr 3 _ _ _ (.int .i64 ((m : Int) + 1)) (.int .i64 0) _ rfl (by kernel_rfl) (by kernel_rfl) (HGT.out _)) ?_
                    simp only [Act.put, List.setIfInBounds_toArray, List.set_cons_zero, List.set_cons_succ]
                    refine wpAny_at (i := 2) (v := .bool true) (some 53) rfl rfl (by kernel_rfl) (by kernel_rfl) (by kernel_rfl) (fun _ _ _ h => h) (by kernel_rfl) (fun _ => ex_move _ _ rfl (by kernel_rfl)) ?_
                    simp only [Act.put, List.setIfInBounds_toArray, List.set_cons_zero, List.set_cons_succ]
                    refine wpAny_at (i := 4) (v := .string s) (some 55) rfl rfl (by kernel_rfl) (by kernel_rfl) (by kernel_rfl) (fun _ _ _ h => h) (by kernel_rfl) (fun _ => ex_move _ _ rfl (by kernel_rfl)) ?_
                    simp only [Act.put, List.setIfInBounds_toArray, List.set_cons_zero, List.set_cons_succ]
                    refine wpAny_at (i := 5) (v := .int .i64 ((m : Int) + 1)) (some 56) rfl rfl (by kernel_rfl) (by kernel_rfl) (by kernel_rfl) (fun _ _ _ h => h) (by kernel_rfl) (fun _ => ex_move _ _ rfl (by kernel_rfl)) ?_
                    simp only [Act.put, List.setIfInBounds_toArray, List.set_cons_zero, List.set_cons_succ]
                    refine wpAny_at (i := 6) (v := .int .i64 m) (some 57) rfl rfl (by kernel_rfl) (by kernel_rfl) (by kernel_rfl) (fun _ _ _ h => h) (by kernel_rfl) (fun _ => ex_binOp .sub 3 _ _ _ (.int .i64 ((m : Int) + 1)) (.int .i64 1) _ rfl (by kernel_rfl) (by kernel_rfl) (HSB.out _)) ?_
                    simp only [Act.put, List.setIfInBounds_toArray, List.set_cons_zero, List.set_cons_succ]
                    refine wpAny_at (i := 7) (v := .int .u8 (s[m].toNat)) (some 58) rfl rfl (by kernel_rfl) (by kernel_rfl) (by kernel_rfl) (fun _ _ _ h => h) (by kernel_rfl) (fun _ => ex_index 9 _ _ (.string s) (.int .i64 m) _ rfl (by kernel_rfl) (by kernel_rfl) (HIX.out _)) ?_
                    simp only [Act.put, List.setIfInBounds_toArray, List.set_cons_zero, List.set_cons_succ]
                    refine wpAny_val 3 (some 54) (.agg (atC x).toArray) (by kernel_rfl) rfl rfl (by kernel_rfl) (ex_load 107 _ (.pointer (some ⟨q, 0, none⟩)) _ rfl (by kernel_rfl) (HLD.out)) ?_
                    simp only [Act.put, List.setIfInBounds_toArray, List.set_cons_zero, List.set_cons_succ]
                    refine wpAny_call 8 (some 59) (by kernel_rfl) rfl rfl (by kernel_rfl) 152 (#[.agg (atC x).toArray, .int .u8 (s[m].toNat)]) (by go_simp) (HC.out _) ?_
                    rintro e w7 ⟨rfl, hb7⟩
                    refine ⟨_, rfl, ?_⟩
                    have qa := (HG4.out.of_block (hb7.block _ HG4.out.lt)).cell (i := m) (by omega)
                    have qn := (HR4.out.of_block (hb7.block _ HR4.out.lt)).cell (i := m) (by omega)
                    have qy := (HA4.out.keep (hb7.block _ hq4)).many
                    rw [if_neg (by omega), if_pos (by omega)] at qn
                    rw [hfi] at qa
                    have rf7 := (HR4.out.of_block (hb7.block _ HR4.out.lt)).frozen (m + 1)
                    have r7 := (HR4.out.of_block (hb7.block _ HR4.out.lt)).cell (i := m + 1) hil
                    rw [if_pos rfl] at r7
                    change wpAny _ _ _ _ _ _ (Act.put _ (some 59) _) _
                    simp only [Act.put, List.setIfInBounds_toArray, List.set_cons_zero, List.set_cons_succ]
                    refine wpAny_at (i := 9) (v := .bool true) (some 60) rfl rfl (by kernel_rfl) (by kernel_rfl) (by kernel_rfl) (fun _ _ _ h => h) (by kernel_rfl) (fun _ => ex_pick _ _ _ true (.bool true) (.bool false) rfl (by kernel_rfl) (by kernel_rfl) (by kernel_rfl)) ?_
                    simp only [Act.put, List.setIfInBounds_toArray, List.set_cons_zero, List.set_cons_succ]
                    refine wpAny_at (i := 10) (v := .bool true) (some 61) rfl rfl (by kernel_rfl) (by kernel_rfl) (by kernel_rfl) (fun _ _ _ h => h) (by kernel_rfl) (fun _ => ex_move _ _ rfl (by kernel_rfl)) ?_
                    simp only [Act.put, List.setIfInBounds_toArray, List.set_cons_zero, List.set_cons_succ]
                    refine wpAny_at (i := 11) (v := .slice (some ⟨b, 0, none⟩) (s.size + 1) (s.size + 1)) (some 62) rfl rfl (by kernel_rfl) (by kernel_rfl) (by kernel_rfl) (fun _ _ _ h => h) (by kernel_rfl) (fun _ => ex_move _ _ rfl (by kernel_rfl)) ?_
                    simp only [Act.put, List.setIfInBounds_toArray, List.set_cons_zero, List.set_cons_succ]
                    refine wpAny_at (i := 12) (v := .int .i64 ((m : Int) + 1)) (some 63) rfl rfl (by kernel_rfl) (by kernel_rfl) (by kernel_rfl) (fun _ _ _ h => h) (by kernel_rfl) (fun _ => ex_move _ _ rfl (by kernel_rfl)) ?_
                    simp only [Act.put, List.setIfInBounds_toArray, List.set_cons_zero, List.set_cons_succ]
                    refine wpAny_at (i := 13) (v := .int .i64 m) (some 64) rfl rfl (by kernel_rfl) (by kernel_rfl) (by kernel_rfl) (fun _ _ _ h => h) (by kernel_rfl) (fun _ => ex_binOp .sub 3 _ _ _ (.int .i64 ((m : Int) + 1)) (.int .i64 1) _ rfl (by kernel_rfl) (by kernel_rfl) (HSB.out _)) ?_
                    simp only [Act.put, List.setIfInBounds_toArray, List.set_cons_zero, List.set_cons_succ]
                    refine wpAny_at (i := 14) (v := .pointer (some ⟨b, m, none⟩)) (some 65) rfl rfl (by kernel_rfl) (by kernel_rfl) (by kernel_rfl) (fun _ _ _ h => h) (by kernel_rfl) (fun _ => ex_indexAddr 134 _ _ (.slice (some ⟨b, 0, none⟩) (s.size + 1) (s.size + 1)) (.int .i64 m) _ rfl (by kernel_rfl) (by kernel_rfl) (HIB.out _)) ?_
                    simp only [Act.put, List.setIfInBounds_toArray, List.set_cons_zero, List.set_cons_succ]
                    refine wpAny_val 15 (some 66) (.bool true) (by kernel_rfl) rfl rfl (by kernel_rfl) (ex_load 4 _ (.pointer (some ⟨b, m, none⟩)) _ rfl (by kernel_rfl) (by go_simp)) ?_
                    simp only [Act.put, List.setIfInBounds_toArray, List.set_cons_zero, List.set_cons_succ]
                    refine wpAny_at (i := 16) (v := .bool true) (some 67) rfl rfl (by kernel_rfl) (by kernel_rfl) (by kernel_rfl) (fun _ _ _ h => h) (by kernel_rfl) (fun _ => ex_move _ _ rfl (by kernel_rfl)) ?_
                    simp only [Act.put, List.setIfInBounds_toArray, List.set_cons_zero, List.set_cons_succ]
                    refine wpAny_skip 17 (some 68) rfl rfl (by kernel_rfl) (by kernel_rfl) (by kernel_rfl) (fun _ _ _ h => h) (by kernel_rfl) ?_
                    simp only [Act.put, List.setIfInBounds_toArray, List.set_cons_zero, List.set_cons_succ]
                    refine wpAny_skip 18 (some 69) rfl rfl (by kernel_rfl) (by kernel_rfl) (by kernel_rfl) (fun _ _ _ h => h) (by kernel_rfl) ?_
                    simp only [Act.put, List.setIfInBounds_toArray, List.set_cons_zero, List.set_cons_succ]
                    refine wpAny_skip 19 (some 70) rfl rfl (by kernel_rfl) (by kernel_rfl) (by kernel_rfl) (fun _ _ _ h => h) (by kernel_rfl) ?_
                    simp only [Act.put, List.setIfInBounds_toArray, List.set_cons_zero, List.set_cons_succ]
                    refine wpAny_skip 20 (some 71) rfl rfl (by kernel_rfl) (by kernel_rfl) (by kernel_rfl) (fun _ _ _ h => h) (by kernel_rfl) ?_
                    simp only [Act.put, List.setIfInBounds_toArray, List.set_cons_zero, List.set_cons_succ]
                    refine wpAny_skip 21 (some 72) rfl rfl (by kernel_rfl) (by kernel_rfl) (by kernel_rfl) (fun _ _ _ h => h) (by kernel_rfl) ?_
                    simp only [Act.put, List.setIfInBounds_toArray, List.set_cons_zero, List.set_cons_succ]
                    refine wpAny_skip 22 (some 73) rfl rfl (by kernel_rfl) (by kernel_rfl) (by kernel_rfl) (fun _ _ _ h => h) (by kernel_rfl) ?_
                    simp only [Act.put, List.setIfInBounds_toArray, List.set_cons_zero, List.set_cons_succ]
                    refine wpAny_skip 23 (some 74) rfl rfl (by kernel_rfl) (by kernel_rfl) (by kernel_rfl) (fun _ _ _ h => h) (by kernel_rfl) ?_
                    simp only [Act.put, List.setIfInBounds_toArray, List.set_cons_zero, List.set_cons_succ]
                    refine wpAny_skip 24 (some 75) rfl rfl (by kernel_rfl) (by kernel_rfl) (by kernel_rfl) (fun _ _ _ h => h) (by kernel_rfl) ?_
                    simp only [Act.put, List.setIfInBounds_toArray, List.set_cons_zero, List.set_cons_succ]
                    refine wpAny_skip 25 (some 76) rfl rfl (by kernel_rfl) (by kernel_rfl) (by kernel_rfl) (fun _ _ _ h => h) (by kernel_rfl) ?_
                    simp only [Act.put, List.setIfInBounds_toArray, List.set_cons_zero, List.set_cons_succ]
                    refine wpAny_at (i := 26) (v := .bool true) (some 77) rfl rfl (by kernel_rfl) (by kernel_rfl) (by kernel_rfl) (fun _ _ _ h => h) (by kernel_rfl) (fun _ => ex_pick _ _ _ true (.bool true) (undef) rfl (by kernel_rfl) (by kernel_rfl) (by kernel_rfl)) ?_
                    simp only [Act.put, List.setIfInBounds_toArray, List.set_cons_zero, List.set_cons_succ]
                    refine wpAny_at (i := 27) (v := .bool true) (some 78) rfl rfl (by kernel_rfl) (by kernel_rfl) (by kernel_rfl) (fun _ _ _ h => h) (by kernel_rfl) (fun _ => ex_pick _ _ _ true (.bool true) (.bool false) rfl (by kernel_rfl) (by kernel_rfl) (by kernel_rfl)) ?_
                    simp only [Act.put, List.setIfInBounds_toArray, List.set_cons_zero, List.set_cons_succ]
                    refine wpAny_done (by kernel_rfl) ?_ _
                    go_wp2_with fail
                    have HR7 := Lib.hid (HR4.out.of_block (hb7.block _ HR4.out.lt))
                    have HG7 := Lib.hid (HG4.out.of_block (hb7.block _ HG4.out.lt))
                    have HA7 := Lib.hid (HA4.out.keep (hb7.block _ hq4))
                    have HB7 := Lib.hid (HB4.out.trans (hb7.mono HB4.out.size))
                    have HRE : Hid ((w7.setCell ⟨N, m + 1, none⟩ (.bool true)).rowIs N 4 (s.size + 1) (fun j => .bool (if j < m + 1 + 1 then advF x s g j else false))) := (HR7.out.set (m + 1) (.bool true)).congr fun j hj => by
                      by_cases h : j = m + 1
                      · rw [if_pos h, if_pos (by omega), h, HVE.out]
                      · rw [if_neg h, if_neg h]
                        by_cases h2 : j < m + 1
                        · rw [if_pos h2, if_pos (by omega)]
                        · rw [if_neg h2, if_neg (by omega)]
                    go_roundg (s.size + 1 - (m + 1 + 1))
                    case measure => omega
                    case rel => exact ⟨m + 1 + 1, by omega, by go_num, HRE.out, HG7.out.of_block (Below.heap_setCell _ _ _ _ (show b ≠ N by omega)), HA7.out.keep (Below.heap_setCell _ _ _ _ (show q ≠ N by omega)), HB7.out.setCell (p := ⟨N, m + 1, none⟩) (show w.heap.size ≤ N by omega) _, Nat.le_refl _⟩
                  | false =>
                    rw [hfi] at HV
                    cases hmm : x.many with
                    | false =>
                      rw [hmm] at HV
                      have HVE : Hid (advF x s g (m + 1) = false) := by
                        show _ = _
                        rw [HV.out]
                        exact Bool.or_false _
                      refine wp_region_at 28 #[false, false, false, false, false, false, false, false, false, false, false, false, false, false, false, false, false, false, false, false, false, false, false, false, false, false, false, false] rfl rfl (by kernel_rfl) ?_
                      refine wpAny_at (i := 0) (v := .int .i64 ((m : Int) + 1)) (some 51) rfl rfl (by kernel_rfl) (by kernel_rfl) (by kernel_rfl) (fun _ _ _ h => h) (by kernel_rfl) (fun _ => ex_move _ _ rfl (by kernel_rfl)) ?_
                      simp only [Act.put, List.setIfInBounds_toArray, List.set_cons_zero, List.set_cons_succ]
                      refine wpAny_at (i := 1) (v := .bool true) (some 52) rfl rfl (by kernel_rfl) (by kernel_rfl) (by kernel_rfl) (fun _ _ _ h => h) (by kernel_rfl) (fun _ => ex_binOp .gtr 3 _ _ _ (.int .i64 ((m : Int) + 1)) (.int .i64 0) _ rfl (by kernel_rfl) (by kernel_rfl) (HGT.out _)) ?_
                      simp only [Act.put, List.setIfInBounds_toArray, List.set_cons_zero, List.set_cons_succ]
                      refine wpAny_at (i := 2) (v := .bool true) (some 53) rfl rfl (by kernel_rfl) (by kernel_rfl) (by kernel_rfl) (fun _ _ _ h => h) (by kernel_rfl) (fun _ => ex_move _ _ rfl (by kernel_rfl)) ?_
                      simp only [Act.put, List.setIfInBounds_toArray, List.set_cons_zero, List.set_cons_succ]
                      refine wpAny_at (i := 4) (v := .string s) (some 55) rfl rfl (by kernel_rfl) (by kernel_rfl) (by kernel_rfl) (fun _ _ _ h => h) (by kernel_rfl) (fun _ => ex_move _ _ rfl (by kernel_rfl)) ?_
                      simp only [Act.put, List.setIfInBounds_toArray, List.set_cons_zero, List.set_cons_succ]
                      refine wpAny_at (i := 5) (v := .int .i64 ((m : Int) + 1)) (some 56) rfl rfl (by kernel_rfl) (by kernel_rfl) (by kernel_rfl) (fun _ _ _ h => h) (by kernel_rfl) (fun _ => ex_move _ _ rfl (by kernel_rfl)) ?_
                      simp only [Act.put, List.setIfInBounds_toArray, List.set_cons_zero, List.set_cons_succ]
                      refine wpAny_at (i := 6) (v := .int .i64 m) (some 57) rfl rfl (by kernel_rfl) (by kernel_rfl) (by kernel_rfl) (fun _ _ _ h => h) (by kernel_rfl) (fun _ => ex_binOp .sub 3 _ _ _ (.int .i64 ((m : Int) + 1)) (.int .i64 1) _ rfl (by kernel_rfl) (by kernel_rfl) (HSB.out _)) ?_
                      simp only [Act.put, List.setIfInBounds_toArray, List.set_cons_zero, List.set_cons_succ]
                      refine wpAny_at (i := 7) (v := .int .u8 (s[m].toNat)) (some 58) rfl rfl (by kernel_rfl) (by kernel_rfl) (by kernel_rfl) (fun _ _ _ h => h) (by kernel_rfl) (fun _ => ex_index 9 _ _ (.string s) (.int .i64 m) _ rfl (by kernel_rfl) (by kernel_rfl) (HIX.out _)) ?_
                      simp only [Act.put, List.setIfInBounds_toArray, List.set_cons_zero, List.set_cons_succ]
                      refine wpAny_val 3 (some 54) (.agg (atC x).toArray) (by kernel_rfl) rfl rfl (by kernel_rfl) (ex_load 107 _ (.pointer (some ⟨q, 0, none⟩)) _ rfl (by kernel_rfl) (HLD.out)) ?_
                      simp only [Act.put, List.setIfInBounds_toArray, List.set_cons_zero, List.set_cons_succ]
                      refine wpAny_call 8 (some 59) (by kernel_rfl) rfl rfl (by kernel_rfl) 152 (#[.agg (atC x).toArray, .int .u8 (s[m].toNat)]) (by go_simp) (HC.out _) ?_
                      rintro e w7 ⟨rfl, hb7⟩
                      refine ⟨_, rfl, ?_⟩
                      have qa := (HG4.out.of_block (hb7.block _ HG4.out.lt)).cell (i := m) (by omega)
                      have qn := (HR4.out.of_block (hb7.block _ HR4.out.lt)).cell (i := m) (by omega)
                      have qy := (HA4.out.keep (hb7.block _ hq4)).many
                      rw [if_neg (by omega), if_pos (by omega)] at qn
                      rw [hfi] at qa
                      rw [hmm] at qy
                      have rf7 := (HR4.out.of_block (hb7.block _ HR4.out.lt)).frozen (m + 1)
                      have r7 := (HR4.out.of_block (hb7.block _ HR4.out.lt)).cell (i := m + 1) hil
                      rw [if_pos rfl] at r7
                      change wpAny _ _ _ _ _ _ (Act.put _ (some 59) _) _
                      simp only [Act.put, List.setIfInBounds_toArray, List.set_cons_zero, List.set_cons_succ]
                      refine wpAny_at (i := 9) (v := .bool true) (some 60) rfl rfl (by kernel_rfl) (by kernel_rfl) (by kernel_rfl) (fun _ _ _ h => h) (by kernel_rfl) (fun _ => ex_pick _ _ _ true (.bool true) (.bool false) rfl (by kernel_rfl) (by kernel_rfl) (by kernel_rfl)) ?_
                      simp only [Act.put, List.setIfInBounds_toArray, List.set_cons_zero, List.set_cons_succ]
                      refine wpAny_at (i := 10) (v := .bool true) (some 61) rfl rfl (by kernel_rfl) (by kernel_rfl) (by kernel_rfl) (fun _ _ _ h => h) (by kernel_rfl) (fun _ => ex_move _ _ rfl (by kernel_rfl)) ?_
                      simp only [Act.put, List.setIfInBounds_toArray, List.set_cons_zero, List.set_cons_succ]
                      refine wpAny_at (i := 11) (v := .slice (some ⟨b, 0, none⟩) (s.size + 1) (s.size + 1)) (some 62) rfl rfl (by kernel_rfl) (by kernel_rfl) (by kernel_rfl) (fun _ _ _ h => h) (by kernel_rfl) (fun _ => ex_move _ _ rfl (by kernel_rfl)) ?_
                      simp only [Act.put, List.setIfInBounds_toArray, List.set_cons_zero, List.set_cons_succ]
                      refine wpAny_at (i := 12) (v := .int .i64 ((m : Int) + 1)) (some 63) rfl rfl (by kernel_rfl) (by kernel_rfl) (by kernel_rfl) (fun _ _ _ h => h) (by kernel_rfl) (fun _ => ex_move _ _ rfl (by kernel_rfl)) ?_
                      simp only [Act.put, List.setIfInBounds_toArray, List.set_cons_zero, List.set_cons_succ]
                      refine wpAny_at (i := 13) (v := .int .i64 m) (some 64) rfl rfl (by kernel_rfl) (by kernel_rfl) (by kernel_rfl) (fun _ _ _ h => h) (by kernel_rfl) (fun _ => ex_binOp .sub 3 _ _ _ (.int .i64 ((m : Int) + 1)) (.int .i64 1) _ rfl (by kernel_rfl) (by kernel_rfl) (HSB.out _)) ?_
                      simp only [Act.put, List.setIfInBounds_toArray, List.set_cons_zero, List.set_cons_succ]
                      refine wpAny_at (i := 14) (v := .pointer (some ⟨b, m, none⟩)) (some 65) rfl rfl (by kernel_rfl) (by kernel_rfl) (by kernel_rfl) (fun _ _ _ h => h) (by kernel_rfl) (fun _ => ex_indexAddr 134 _ _ (.slice (some ⟨b, 0, none⟩) (s.size + 1) (s.size + 1)) (.int .i64 m) _ rfl (by kernel_rfl) (by kernel_rfl) (HIB.out _)) ?_
                      simp only [Act.put, List.setIfInBounds_toArray, List.set_cons_zero, List.set_cons_succ]
                      refine wpAny_val 15 (some 66) (.bool false) (by kernel_rfl) rfl rfl (by kernel_rfl) (ex_load 4 _ (.pointer (some ⟨b, m, none⟩)) _ rfl (by kernel_rfl) (by go_simp)) ?_
                      simp only [Act.put, List.setIfInBounds_toArray, List.set_cons_zero, List.set_cons_succ]
                      refine wpAny_at (i := 16) (v := .bool false) (some 67) rfl rfl (by kernel_rfl) (by kernel_rfl) (by kernel_rfl) (fun _ _ _ h => h) (by kernel_rfl) (fun _ => ex_move _ _ rfl (by kernel_rfl)) ?_
                      simp only [Act.put, List.setIfInBounds_toArray, List.set_cons_zero, List.set_cons_succ]
                      refine wpAny_at (i := 17) (v := .pointer (some ⟨q, 33, none⟩)) (some 68) rfl rfl (by kernel_rfl) (by kernel_rfl) (by kernel_rfl) (fun _ _ _ h => h) (by kernel_rfl) (fun _ => ex_fieldAddr 107 _ 2 (.pointer (some ⟨q, 0, none⟩)) _ rfl (by kernel_rfl) (by go_simp)) ?_
                      simp only [Act.put, List.setIfInBounds_toArray, List.set_cons_zero, List.set_cons_succ]
                      refine wpAny_val 18 (some 69) (.bool false) (by kernel_rfl) rfl rfl (by kernel_rfl) (ex_load 4 _ (.pointer (some ⟨q, 33, none⟩)) _ rfl (by kernel_rfl) (by go_simp)) ?_
                      simp only [Act.put, List.setIfInBounds_toArray, List.set_cons_zero, List.set_cons_succ]
                      refine wpAny_at (i := 19) (v := .bool false) (some 70) rfl rfl (by kernel_rfl) (by kernel_rfl) (by kernel_rfl) (fun _ _ _ h => h) (by kernel_rfl) (fun _ => ex_move _ _ rfl (by kernel_rfl)) ?_
                      simp only [Act.put, List.setIfInBounds_toArray, List.set_cons_zero, List.set_cons_succ]
                      refine wpAny_skip 20 (some 71) rfl rfl (by kernel_rfl) (by kernel_rfl) (by kernel_rfl) (fun _ _ _ h => h) (by kernel_rfl) ?_
                      simp only [Act.put, List.setIfInBounds_toArray, List.set_cons_zero, List.set_cons_succ]
                      refine wpAny_skip 21 (some 72) rfl rfl (by kernel_rfl) (by kernel_rfl) (by kernel_rfl) (fun _ _ _ h => h) (by kernel_rfl) ?_
                      simp only [Act.put, List.setIfInBounds_toArray, List.set_cons_zero, List.set_cons_succ]
                      refine wpAny_skip 22 (some 73) rfl rfl (by kernel_rfl) (by kernel_rfl) (by kernel_rfl) (fun _ _ _ h => h) (by kernel_rfl) ?_
                      simp only [Act.put, List.setIfInBounds_toArray, List.set_cons_zero, List.set_cons_succ]
                      refine wpAny_skip 23 (some 74) rfl rfl (by kernel_rfl) (by kernel_rfl) (by kernel_rfl) (fun _ _ _ h => h) (by kernel_rfl) ?_
                      simp only [Act.put, List.setIfInBounds_toArray, List.set_cons_zero, List.set_cons_succ]
                      refine wpAny_skip 24 (some 75) rfl rfl (by kernel_rfl) (by kernel_rfl) (by kernel_rfl) (fun _ _ _ h => h) (by kernel_rfl) ?_
                      simp only [Act.put, List.setIfInBounds_toArray, List.set_cons_zero, List.set_cons_succ]
                      refine wpAny_at (i := 25) (v := .bool false) (some 76) rfl rfl (by kernel_rfl) (by kernel_rfl) (by kernel_rfl) (fun _ _ _ h => h) (by kernel_rfl) (fun _ => ex_pick _ _ _ false (undef) (.bool false) rfl (by kernel_rfl) (by kernel_rfl) (by kernel_rfl)) ?_
                      simp only [Act.put, List.setIfInBounds_toArray, List.set_cons_zero, List.set_cons_succ]
                      refine wpAny_at (i := 26) (v := .bool false) (some 77) rfl rfl (by kernel_rfl) (by kernel_rfl) (by kernel_rfl) (fun _ _ _ h => h) (by kernel_rfl) (fun _ => ex_pick _ _ _ false (.bool true) (.bool false) rfl (by kernel_rfl) (by kernel_rfl) (by kernel_rfl)) ?_
                      simp only [Act.put, List.setIfInBounds_toArray, List.set_cons_zero, List.set_cons_succ]
                      refine wpAny_at (i := 27) (v := .bool false) (some 78) rfl rfl (by kernel_rfl) (by kernel_rfl) (by kernel_rfl) (fun _ _ _ h => h) (by kernel_rfl) (fun _ => ex_pick _ _ _ true (.bool false) (.bool false) rfl (by kernel_rfl) (by kernel_rfl) (by kernel_rfl)) ?_
                      simp only [Act.put, List.setIfInBounds_toArray, List.set_cons_zero, List.set_cons_succ]
                      refine wpAny_done (by kernel_rfl) ?_ _
                      go_wp2_with fail
                      have HR7 := Lib.hid (HR4.out.of_block (hb7.block _ HR4.out.lt))
                      have HG7 := Lib.hid (HG4.out.of_block (hb7.block _ HG4.out.lt))
                      have HA7 := Lib.hid (HA4.out.keep (hb7.block _ hq4))
                      have HB7 := Lib.hid (HB4.out.trans (hb7.mono HB4.out.size))
                      have HRE : Hid (w7.rowIs N 4 (s.size + 1) (fun j => .bool (if j < m + 1 + 1 then advF x s g j else false))) := HR7.out.congr fun j hj => by
                        by_cases h : j = m + 1
                        · rw [if_pos h, if_pos (by omega), h, HVE.out]
                        · rw [if_neg h]
                          by_cases h2 : j < m + 1
                          · rw [if_pos h2, if_pos (by omega)]
                          · rw [if_neg h2, if_neg (by omega)]
                      go_roundg (s.size + 1 - (m + 1 + 1))
                      case measure => omega
                      case rel => exact ⟨m + 1 + 1, by omega, by go_num, HRE.out, HG7.out, HA7.out, HB7.out, Nat.le_refl _⟩
                    | true =>
                      rw [hmm] at HV
                      cases hni : advF x s g m with
                      | true =>
                        rw [hni] at HV
                        have HVE : Hid (advF x s g (m + 1) = true) := by
                          show _ = _
                          rw [HV.out]
                          exact Bool.or_true _
                        refine wp_region_at 28 #[false, false, false, false, false, false, false, false, false, false, false, false, false, false, false, false, false, false, false, false, false, false, false, false, false, false, false, false] rfl rfl (by kernel_rfl) ?_
                        refine wpAny_at (i := 0) (v := .int .i64 ((m : Int) + 1)) (some 51) rfl rfl (by kernel_rfl) (by kernel_rfl) (by kernel_rfl) (fun _ _ _ h => h) (by kernel_rfl) (fun _ => ex_move _ _ rfl (by kernel_rfl)) ?_
                        simp only [Act.put, List.setIfInBounds_toArray, List.set_cons_zero, List.set_cons_succ]
                        refine wpAny_at (i := 1) (v := .bool true) (some 52) rfl rfl (by kernel_rfl) (by kernel_rfl) (by kernel_rfl) (fun _ _ _ h => h) (by kernel_rfl) (fun _ => ex_binOp .gtr 3 _ _ _ (.int .i64 ((m : Int) + 1)) (.int .i64 0) _ rfl (by kernel_rfl) (by kernel_rfl) (HGT.out _)) ?_
                        simp only [Act.put, List.setIfInBounds_toArray, List.set_cons_zero, List.set_cons_succ]
                        refine wpAny_at (i := 2) (v := .bool true) (some 53) rfl rfl (by kernel_rfl) (by kernel_rfl) (by kernel_rfl) (fun _ _ _ h => h) (by kernel_rfl) (fun _ => ex_move _ _ rfl (by kernel_rfl)) ?_
                        simp only [Act.put, List.setIfInBounds_toArray, List.set_cons_zero, List.set_cons_succ]
                        refine wpAny_at (i := 4) (v := .string s) (some 55) rfl rfl (by kernel_rfl) (by kernel_rfl) (by kernel_rfl) (fun _ _ _ h => h) (by kernel_rfl) (fun _ => ex_move _ _ rfl (by kernel_rfl)) ?_
                        simp only [Act.put, List.setIfInBounds_toArray, List.set_cons_zero, List.set_cons_succ]
                        refine wpAny_at (i := 5) (v := .int .i64 ((m : Int) + 1)) (some 56) rfl rfl (by kernel_rfl) (by kernel_rfl) (by kernel_rfl) (fun _ _ _ h => h) (by kernel_rfl) (fun _ => ex_move _ _ rfl (by kernel_rfl)) ?_
                        simp only [Act.put, List.setIfInBounds_toArray, List.set_cons_zero, List.set_cons_succ]
                        refine wpAny_at (i := 6) (v := .int .i64 m) (some 57) rfl rfl (by kernel_rfl) (by kernel_rfl) (by kernel_rfl) (fun _ _ _ h => h) (by kernel_rfl) (fun _ => ex_binOp .sub 3 _ _ _ (.int .i64 ((m : Int) + 1)) (.int .i64 1) _ rfl (by kernel_rfl) (by kernel_rfl) (HSB.out _)) ?_
                        simp only [Act.put, List.setIfInBounds_toArray, List.set_cons_zero, List.set_cons_succ]
                        refine wpAny_at (i := 7) (v := .int .u8 (s[m].toNat)) (some 58) rfl rfl (by kernel_rfl) (by kernel_rfl) (by kernel_rfl) (fun _ _ _ h => h) (by kernel_rfl) (fun _ => ex_index 9 _ _ (.string s) (.int .i64 m) _ rfl (by kernel_rfl) (by kernel_rfl) (HIX.out _)) ?_
                        simp only [Act.put, List.setIfInBounds_toArray, List.set_cons_zero, List.set_cons_succ]
                        refine wpAny_val 3 (some 54) (.agg (atC x).toArray) (by kernel_rfl) rfl rfl (by kernel_rfl) (ex_load 107 _ (.pointer (some ⟨q, 0, none⟩)) _ rfl (by kernel_rfl) (HLD.out)) ?_
                        simp only [Act.put, List.setIfInBounds_toArray, List.set_cons_zero, List.set_cons_succ]
                        refine wpAny_call 8 (some 59) (by kernel_rfl) rfl rfl (by kernel_rfl) 152 (#[.agg (atC x).toArray, .int .u8 (s[m].toNat)]) (by go_simp) (HC.out _) ?_
                        rintro e w7 ⟨rfl, hb7⟩
                        refine ⟨_, rfl, ?_⟩
                        have qa := (HG4.out.of_block (hb7.block _ HG4.out.lt)).cell (i := m) (by omega)
                        have qn := (HR4.out.of_block (hb7.block _ HR4.out.lt)).cell (i := m) (by omega)
                        have qy := (HA4.out.keep (hb7.block _ hq4)).many
                        rw [if_neg (by omega), if_pos (by omega)] at qn
                        rw [hfi] at qa
                        rw [hmm] at qy
                        rw [hni] at qn
                        have rf7 := (HR4.out.of_block (hb7.block _ HR4.out.lt)).frozen (m + 1)
                        have r7 := (HR4.out.of_block (hb7.block _ HR4.out.lt)).cell (i := m + 1) hil
                        rw [if_pos rfl] at r7
                        change wpAny _ _ _ _ _ _ (Act.put _ (some 59) _) _
                        simp only [Act.put, List.setIfInBounds_toArray, List.set_cons_zero, List.set_cons_succ]
                        refine wpAny_at (i := 9) (v := .bool true) (some 60) rfl rfl (by kernel_rfl) (by kernel_rfl) (by kernel_rfl) (fun _ _ _ h => h) (by kernel_rfl) (fun _ => ex_pick _ _ _ true (.bool true) (.bool false) rfl (by kernel_rfl) (by kernel_rfl) (by kernel_rfl)) ?_
                        simp only [Act.put, List.setIfInBounds_toArray, List.set_cons_zero, List.set_cons_succ]
                        refine wpAny_at (i := 10) (v := .bool true) (some 61) rfl rfl (by kernel_rfl) (by kernel_rfl) (by kernel_rfl) (fun _ _ _ h => h) (by kernel_rfl) (fun _ => ex_move _ _ rfl (by kernel_rfl)) ?_
                        simp only [Act.put, List.setIfInBounds_toArray, List.set_cons_zero, List.set_cons_succ]
                        refine wpAny_at (i := 11) (v := .slice (some ⟨b, 0, none⟩) (s.size + 1) (s.size + 1)) (some 62) rfl rfl (by kernel_rfl) (by kernel_rfl) (by kernel_rfl) (fun _ _ _ h => h) (by kernel_rfl) (fun _ => ex_move _ _ rfl (by kernel_rfl)) ?_
                        simp only [Act.put, List.setIfInBounds_toArray, List.set_cons_zero, List.set_cons_succ]
                        refine wpAny_at (i := 12) (v := .int .i64 ((m : Int) + 1)) (some 63) rfl rfl (by kernel_rfl) (by kernel_rfl) (by kernel_rfl) (fun _ _ _ h => h) (by kernel_rfl) (fun _ => ex_move _ _ rfl (by kernel_rfl)) ?_
                        simp only [Act.put, List.setIfInBounds_toArray, List.set_cons_zero, List.set_cons_succ]
                        refine wpAny_at (i := 13) (v := .int .i64 m) (some 64) rfl rfl (by kernel_rfl) (by kernel_rfl) (by kernel_rfl) (fun _ _ _ h => h) (by kernel_rfl) (fun _ => ex_binOp .sub 3 _ _ _ (.int .i64 ((m : Int) + 1)) (.int .i64 1) _ rfl (by kernel_rfl) (by kernel_rfl) (HSB.out _)) ?_
                        simp only [Act.put, List.setIfInBounds_toArray, List.set_cons_zero, List.set_cons_succ]
                        refine wpAny_at (i := 14) (v := .pointer (some ⟨b, m, none⟩)) (some 65) rfl rfl (by kernel_rfl) (by kernel_rfl) (by kernel_rfl) (fun _ _ _ h => h) (by kernel_rfl) (fun _ => ex_indexAddr 134 _ _ (.slice (some ⟨b, 0, none⟩) (s.size + 1) (s.size + 1)) (.int .i64 m) _ rfl (by kernel_rfl) (by kernel_rfl) (HIB.out _)) ?_
                        simp only [Act.put, List.setIfInBounds_toArray, List.set_cons_zero, List.set_cons_succ]
                        refine wpAny_val 15 (some 66) (.bool false) (by kernel_rfl) rfl rfl (by kernel_rfl) (ex_load 4 _ (.pointer (some ⟨b, m, none⟩)) _ rfl (by kernel_rfl) (by go_simp)) ?_
                        simp only [Act.put, List.setIfInBounds_toArray, List.set_cons_zero, List.set_cons_succ]
                        refine wpAny_at (i := 16) (v := .bool false) (some 67) rfl rfl (by kernel_rfl) (by kernel_rfl) (by kernel_rfl) (fun _ _ _ h => h) (by kernel_rfl) (fun _ => ex_move _ _ rfl (by kernel_rfl)) ?_
                        simp only [Act.put, List.setIfInBounds_toArray, List.set_cons_zero, List.set_cons_succ]
                        refine wpAny_at (i := 17) (v := .pointer (some ⟨q, 33, none⟩)) (some 68) rfl rfl (by kernel_rfl) (by kernel_rfl) (by kernel_rfl) (fun _ _ _ h => h) (by kernel_rfl) (fun _ => ex_fieldAddr 107 _ 2 (.pointer (some ⟨q, 0, none⟩)) _ rfl (by kernel_rfl) (by go_simp)) ?_
                        simp only [Act.put, List.setIfInBounds_toArray, List.set_cons_zero, List.set_cons_succ]
                        refine wpAny_val 18 (some 69) (.bool true) (by kernel_rfl) rfl rfl (by kernel_rfl) (ex_load 4 _ (.pointer (some ⟨q, 33, none⟩)) _ rfl (by kernel_rfl) (by go_simp)) ?_
                        simp only [Act.put, List.setIfInBounds_toArray, List.set_cons_zero, List.set_cons_succ]
                        refine wpAny_at (i := 19) (v := .bool true) (some 70) rfl rfl (by kernel_rfl) (by kernel_rfl) (by kernel_rfl) (fun _ _ _ h => h) (by kernel_rfl) (fun _ => ex_move _ _ rfl (by kernel_rfl)) ?_
                        simp only [Act.put, List.setIfInBounds_toArray, List.set_cons_zero, List.set_cons_succ]
                        refine wpAny_at (i := 20) (v := .slice (some ⟨N, 0, none⟩) (s.size + 1) (s.size + 1)) (some 71) rfl rfl (by kernel_rfl) (by kernel_rfl) (by kernel_rfl) (fun _ _ _ h => h) (by kernel_rfl) (fun _ => ex_move _ _ rfl (by kernel_rfl)) ?_
                        simp only [Act.put, List.setIfInBounds_toArray, List.set_cons_zero, List.set_cons_succ]
                        refine wpAny_at (i := 21) (v := .int .i64 ((m : Int) + 1)) (some 72) rfl rfl (by kernel_rfl) (by kernel_rfl) (by kernel_rfl) (fun _ _ _ h => h) (by kernel_rfl) (fun _ => ex_move _ _ rfl (by kernel_rfl)) ?_
                        simp only [Act.put, List.setIfInBounds_toArray, List.set_cons_zero, List.set_cons_succ]
                        refine wpAny_at (i := 22) (v := .int .i64 m) (some 73) rfl rfl (by kernel_rfl) (by kernel_rfl) (by kernel_rfl) (fun _ _ _ h => h) (by kernel_rfl) (fun _ => ex_binOp .sub 3 _ _ _ (.int .i64 ((m : Int) + 1)) (.int .i64 1) _ rfl (by kernel_rfl) (by kernel_rfl) (HSB.out _)) ?_
                        simp only [Act.put, List.setIfInBounds_toArray, List.set_cons_zero, List.set_cons_succ]
                        refine wpAny_at (i := 23) (v := .pointer (some ⟨N, m, none⟩)) (some 74) rfl rfl (by kernel_rfl) (by kernel_rfl) (by kernel_rfl) (fun _ _ _ h => h) (by kernel_rfl) (fun _ => ex_indexAddr 134 _ _ (.slice (some ⟨N, 0, none⟩) (s.size + 1) (s.size + 1)) (.int .i64 m) _ rfl (by kernel_rfl) (by kernel_rfl) (HIN.out _)) ?_
                        simp only [Act.put, List.setIfInBounds_toArray, List.set_cons_zero, List.set_cons_succ]
                        refine wpAny_val 24 (some 75) (.bool true) (by kernel_rfl) rfl rfl (by kernel_rfl) (ex_load 4 _ (.pointer (some ⟨N, m, none⟩)) _ rfl (by kernel_rfl) (by go_simp)) ?_
                        simp only [Act.put, List.setIfInBounds_toArray, List.set_cons_zero, List.set_cons_succ]
                        refine wpAny_at (i := 25) (v := .bool true) (some 76) rfl rfl (by kernel_rfl) (by kernel_rfl) (by kernel_rfl) (fun _ _ _ h => h) (by kernel_rfl) (fun _ => ex_pick _ _ _ true (.bool true) (.bool false) rfl (by kernel_rfl) (by kernel_rfl) (by kernel_rfl)) ?_
                        simp only [Act.put, List.setIfInBounds_toArray, List.set_cons_zero, List.set_cons_succ]
                        refine wpAny_at (i := 26) (v := .bool true) (some 77) rfl rfl (by kernel_rfl) (by kernel_rfl) (by kernel_rfl) (fun _ _ _ h => h) (by kernel_rfl) (fun _ => ex_pick _ _ _ false (.bool true) (.bool true) rfl (by kernel_rfl) (by kernel_rfl) (by kernel_rfl)) ?_
                        simp only [Act.put, List.setIfInBounds_toArray, List.set_cons_zero, List.set_cons_succ]
                        refine wpAny_at (i := 27) (v := .bool true) (some 78) rfl rfl (by kernel_rfl) (by kernel_rfl) (by kernel_rfl) (fun _ _ _ h => h) (by kernel_rfl) (fun _ => ex_pick _ _ _ true (.bool true) (.bool false) rfl (by kernel_rfl) (by kernel_rfl) (by kernel_rfl)) ?_
                        simp only [Act.put, List.setIfInBounds_toArray, List.set_cons_zero, List.set_cons_succ]
                        refine wpAny_done (by kernel_rfl) ?_ _
                        go_wp2_with fail
                        have HR7 := Lib.hid (HR4.out.of_block (hb7.block _ HR4.out.lt))
                        have HG7 := Lib.hid (HG4.out.of_block (hb7.block _ HG4.out.lt))
                        have HA7 := Lib.hid (HA4.out.keep (hb7.block _ hq4))
                        have HB7 := Lib.hid (HB4.out.trans (hb7.mono HB4.out.size))
                        have HRE : Hid ((w7.setCell ⟨N, m + 1, none⟩ (.bool true)).rowIs N 4 (s.size + 1) (fun j => .bool (if j < m + 1 + 1 then advF x s g j else false))) := (HR7.out.set (m + 1) (.bool true)).congr fun j hj => by
                          by_cases h : j = m + 1
                          · rw [if_pos h, if_pos (by omega), h, HVE.out]
                          · rw [if_neg h, if_neg h]
                            by_cases h2 : j < m + 1
                            · rw [if_pos h2, if_pos (by omega)]
                            · rw [if_neg h2, if_neg (by omega)]
                        go_roundg (s.size + 1 - (m + 1 + 1))
                        case measure => omega
                        case rel => exact ⟨m + 1 + 1, by omega, by go_num, HRE.out, HG7.out.of_block (Below.heap_setCell _ _ _ _ (show b ≠ N by omega)), HA7.out.keep (Below.heap_setCell _ _ _ _ (show q ≠ N by omega)), HB7.out.setCell (p := ⟨N, m + 1, none⟩) (show w.heap.size ≤ N by omega) _, Nat.le_refl _⟩
                      | false =>
                        rw [hni] at HV
                        have HVE : Hid (advF x s g (m + 1) = false) := by
                          show _ = _
                          rw [HV.out]
                          exact Bool.or_false _
                        refine wp_region_at 28 #[false, false, false, false, false, false, false, false, false, false, false, false, false, false, false, false, false, false, false, false, false, false, false, false, false, false, false, false] rfl rfl (by kernel_rfl) ?_
                        refine wpAny_at (i := 0) (v := .int .i64 ((m : Int) + 1)) (some 51) rfl rfl (by kernel_rfl) (by kernel_rfl) (by kernel_rfl) (fun _ _ _ h => h) (by kernel_rfl) (fun _ => ex_move _ _ rfl (by kernel_rfl)) ?_
                        simp only [Act.put, List.setIfInBounds_toArray, List.set_cons_zero, List.set_cons_succ]
                        refine wpAny_at (i := 1) (v := .bool true) (some 52) rfl rfl (by kernel_rfl) (by kernel_rfl) (by kernel_rfl) (fun _ _ _ h => h) (by kernel_rfl) (fun _ => ex_binOp .gtr 3 _ _ _ (.int .i64 ((m : Int) + 1)) (.int .i64 0) _ rfl (by kernel_rfl) (by kernel_rfl) (HGT.out _)) ?_
                        simp only [Act.put, List.setIfInBounds_toArray, List.set_cons_zero, List.set_cons_succ]
                        refine wpAny_at (i := 2) (v := .bool true) (some 53) rfl rfl (by kernel_rfl) (by kernel_rfl) (by kernel_rfl) (fun _ _ _ h => h) (by kernel_rfl) (fun _ => ex_move _ _ rfl (by kernel_rfl)) ?_
                        simp only [Act.put, List.setIfInBounds_toArray, List.set_cons_zero, List.set_cons_succ]
                        refine wpAny_at (i := 4) (v := .string s) (some 55) rfl rfl (by kernel_rfl) (by kernel_rfl) (by kernel_rfl) (fun _ _ _ h => h) (by kernel_rfl) (fun _ => ex_move _ _ rfl (by kernel_rfl)) ?_
                        simp only [Act.put, List.setIfInBounds_toArray, List.set_cons_zero, List.set_cons_succ]
                        refine wpAny_at (i := 5) (v := .int .i64 ((m : Int) + 1)) (some 56) rfl rfl (by kernel_rfl) (by kernel_rfl) (by kernel_rfl) (fun _ _ _ h => h) (by kernel_rfl) (fun _ => ex_move _ _ rfl (by kernel_rfl)) ?_
                        simp only [Act.put, List.setIfInBounds_toArray, List.set_cons_zero, List.set_cons_succ]
                        refine wpAny_at (i := 6) (v := .int .i64 m) (some 57) rfl rfl (by kernel_rfl) (by kernel_rfl) (by kernel_rfl) (fun _ _ _ h => h) (by kernel_rfl) (fun _ => ex_binOp .sub 3 _ _ _ (.int .i64 ((m : Int) + 1)) (.int .i64 1) _ rfl (by kernel_rfl) (by kernel_rfl) (HSB.out _)) ?_
                        simp only [Act.put, List.setIfInBounds_toArray, List.set_cons_zero, List.set_cons_succ]
                        refine wpAny_at (i := 7) (v := .int .u8 (s[m].toNat)) (some 58) rfl rfl (by kernel_rfl) (by kernel_rfl) (by kernel_rfl) (fun _ _ _ h => h) (by kernel_rfl) (fun _ => ex_index 9 _ _ (.string s) (.int .i64 m) _ rfl (by kernel_rfl) (by kernel_rfl) (HIX.out _)) ?_
                        simp only [Act.put, List.setIfInBounds_toArray, List.set_cons_zero, List.set_cons_succ]
                        refine wpAny_val 3 (some 54) (.agg (atC x).toArray) (by kernel_rfl) rfl rfl (by kernel_rfl) (ex_load 107 _ (.pointer (some ⟨q, 0, none⟩)) _ rfl (by kernel_rfl) (HLD.out)) ?_
                        simp only [Act.put, List.setIfInBounds_toArray, List.set_cons_zero, List.set_cons_succ]
                        refine wpAny_call 8 (some 59) (by kernel_rfl) rfl rfl (by kernel_rfl) 152 (#[.agg (atC x).toArray, .int .u8 (s[m].toNat)]) (by go_simp) (HC.out _) ?_
                        rintro e w7 ⟨rfl, hb7⟩
                        refine ⟨_, rfl, ?_⟩
                        have qa := (HG4.out.of_block (hb7.block _ HG4.out.lt)).cell (i := m) (by omega)
                        have qn := (HR4.out.of_block (hb7.block _ HR4.out.lt)).cell (i := m) (by omega)
                        have qy := (HA4.out.keep (hb7.block _ hq4)).many
                        rw [if_neg (by omega), if_pos (by omega)] at qn
                        rw [hfi] at qa
                        rw [hmm] at qy
                        rw [hni] at qn
                        have rf7 := (HR4.out.of_block (hb7.block _ HR4.out.lt)).frozen (m + 1)
                        have r7 := (HR4.out.of_block (hb7.block _ HR4.out.lt)).cell (i := m + 1) hil
                        rw [if_pos rfl] at r7
                        change wpAny _ _ _ _ _ _ (Act.put _ (some 59) _) _
                        simp only [Act.put, List.setIfInBounds_toArray, List.set_cons_zero, List.set_cons_succ]
                        refine wpAny_at (i := 9) (v := .bool true) (some 60) rfl rfl (by kernel_rfl) (by kernel_rfl) (by kernel_rfl) (fun _ _ _ h => h) (by kernel_rfl) (fun _ => ex_pick _ _ _ true (.bool true) (.bool false) rfl (by kernel_rfl) (by kernel_rfl) (by kernel_rfl)) ?_
                        simp only [Act.put, List.setIfInBounds_toArray, List.set_cons_zero, List.set_cons_succ]
                        refine wpAny_at (i := 10) (v := .bool true) (some 61) rfl rfl (by kernel_rfl) (by kernel_rfl) (by kernel_rfl) (fun _ _ _ h => h) (by kernel_rfl) (fun _ => ex_move _ _ rfl (by kernel_rfl)) ?_
                        simp only [Act.put, List.setIfInBounds_toArray, List.set_cons_zero, List.set_cons_succ]
                        refine wpAny_at (i := 11) (v := .slice (some ⟨b, 0, none⟩) (s.size + 1) (s.size + 1)) (some 62) rfl rfl (by kernel_rfl) (by kernel_rfl) (by kernel_rfl) (fun _ _ _ h => h) (by kernel_rfl) (fun _ => ex_move _ _ rfl (by kernel_rfl)) ?_
                        simp only [Act.put, List.setIfInBounds_toArray, List.set_cons_zero, List.set_cons_succ]
                        refine wpAny_at (i := 12) (v := .int .i64 ((m : Int) + 1)) (some 63) rfl rfl (by kernel_rfl) (by kernel_rfl) (by kernel_rfl) (fun _ _ _ h => h) (by kernel_rfl) (fun _ => ex_move _ _ rfl (by kernel_rfl)) ?_
                        simp only [Act.put, List.setIfInBounds_toArray, List.set_cons_zero, List.set_cons_succ]
                        refine wpAny_at (i := 13) (v := .int .i64 m) (some 64) rfl rfl (by kernel_rfl) (by kernel_rfl) (by kernel_rfl) (fun _ _ _ h => h) (by kernel_rfl) (fun _ => ex_binOp .sub 3 _ _ _ (.int .i64 ((m : Int) + 1)) (.int .i64 1) _ rfl (by kernel_rfl) (by kernel_rfl) (HSB.out _)) ?_
                        simp only [Act.put, List.setIfInBounds_toArray, List.set_cons_zero, List.set_cons_succ]
                        refine wpAny_at (i := 14) (v := .pointer (some ⟨b, m, none⟩)) (some 65) rfl rfl (by kernel_rfl) (by kernel_rfl) (by kernel_rfl) (fun _ _ _ h => h) (by kernel_rfl) (fun _ => ex_indexAddr 134 _ _ (.slice (some ⟨b, 0, none⟩) (s.size + 1) (s.size + 1)) (.int .i64 m) _ rfl (by kernel_rfl) (by kernel_rfl) (HIB.out _)) ?_
                        simp only [Act.put, List.setIfInBounds_toArray, List.set_cons_zero, List.set_cons_succ]
                        refine wpAny_val 15 (some 66) (.bool false) (by kernel_rfl) rfl rfl (by kernel_rfl) (ex_load 4 _ (.pointer (some ⟨b, m, none⟩)) _ rfl (by kernel_rfl) (by go_simp)) ?_
                        simp only [Act.put, List.setIfInBounds_toArray, List.set_cons_zero, List.set_cons_succ]
                        refine wpAny_at (i := 16) (v := .bool false) (some 67) rfl rfl (by kernel_rfl) (by kernel_rfl) (by kernel_rfl) (fun _ _ _ h => h) (by kernel_rfl) (fun _ => ex_move _ _ rfl (by kernel_rfl)) ?_
                        simp only [Act.put, List.setIfInBounds_toArray, List.set_cons_zero, List.set_cons_succ]
                        refine wpAny_at (i := 17) (v := .pointer (some ⟨q, 33, none⟩)) (some 68) rfl rfl (by kernel_rfl) (by kernel_rfl) (by kernel_rfl) (fun _ _ _ h => h) (by kernel_rfl) (fun _ => ex_fieldAddr 107 _ 2 (.pointer (some ⟨q, 0, none⟩)) _ rfl (by kernel_rfl) (by go_simp)) ?_
                        simp only [Act.put, List.setIfInBounds_toArray, List.set_cons_zero, List.set_cons_succ]
                        refine wpAny_val 18 (some 69) (.bool true) (by kernel_rfl) rfl rfl (by kernel_rfl) (ex_load 4 _ (.pointer (some ⟨q, 33, none⟩)) _ rfl (by kernel_rfl) (by go_simp)) ?_
                        simp only [Act.put, List.setIfInBounds_toArray, List.set_cons_zero, List.set_cons_succ]
                        refine wpAny_at (i := 19) (v := .bool true) (some 70) rfl rfl (by kernel_rfl) (by kernel_rfl) (by kernel_rfl) (fun _ _ _ h => h) (by kernel_rfl) (fun _ => ex_move _ _ rfl (by kernel_rfl)) ?_
                        simp only [Act.put, List.setIfInBounds_toArray, List.set_cons_zero, List.set_cons_succ]
                        refine wpAny_at (i := 20) (v := .slice (some ⟨N, 0, none⟩) (s.size + 1) (s.size + 1)) (some 71) rfl rfl (by kernel_rfl) (by kernel_rfl) (by kernel_rfl) (fun _ _ _ h => h) (by kernel_rfl) (fun _ => ex_move _ _ rfl (by kernel_rfl)) ?_
                        simp only [Act.put, List.setIfInBounds_toArray, List.set_cons_zero, List.set_cons_succ]
                        refine wpAny_at (i := 21) (v := .int .i64 ((m : Int) + 1)) (some 72) rfl rfl (by kernel_rfl) (by kernel_rfl) (by kernel_rfl) (fun _ _ _ h => h) (by kernel_rfl) (fun _ => ex_move _ _ rfl (by kernel_rfl)) ?_
                        simp only [Act.put, List.setIfInBounds_toArray, List.set_cons_zero, List.set_cons_succ]
                        refine wpAny_at (i := 22) (v := .int .i64 m) (some 73) rfl rfl (by kernel_rfl) (by kernel_rfl) (by kernel_rfl) (fun _ _ _ h => h) (by kernel_rfl) (fun _ => ex_binOp .sub 3 _ _ _ (.int .i64 ((m : Int) + 1)) (.int .i64 1) _ rfl (by kernel_rfl) (by kernel_rfl) (HSB.out _)) ?_
                        simp only [Act.put, List.setIfInBounds_toArray, List.set_cons_zero, List.set_cons_succ]
                        refine wpAny_at (i := 23) (v := .pointer (some ⟨N, m, none⟩)) (some 74) rfl rfl (by kernel_rfl) (by kernel_rfl) (by kernel_rfl) (fun _ _ _ h => h) (by kernel_rfl) (fun _ => ex_indexAddr 134 _ _ (.slice (some ⟨N, 0, none⟩) (s.size + 1) (s.size + 1)) (.int .i64 m) _ rfl (by kernel_rfl) (by kernel_rfl) (HIN.out _)) ?_
                        simp only [Act.put, List.setIfInBounds_toArray, List.set_cons_zero, List.set_cons_succ]
                        refine wpAny_val 24 (some 75) (.bool false) (by kernel_rfl) rfl rfl (by kernel_rfl) (ex_load 4 _ (.pointer (some ⟨N, m, none⟩)) _ rfl (by kernel_rfl) (by go_simp)) ?_
                        simp only [Act.put, List.setIfInBounds_toArray, List.set_cons_zero, List.set_cons_succ]
                        refine wpAny_at (i := 25) (v := .bool false) (some 76) rfl rfl (by kernel_rfl) (by kernel_rfl) (by kernel_rfl) (fun _ _ _ h => h) (by kernel_rfl) (fun _ => ex_pick _ _ _ true (.bool false) (.bool false) rfl (by kernel_rfl) (by kernel_rfl) (by kernel_rfl)) ?_
                        simp only [Act.put, List.setIfInBounds_toArray, List.set_cons_zero, List.set_cons_succ]
                        refine wpAny_at (i := 26) (v := .bool false) (some 77) rfl rfl (by kernel_rfl) (by kernel_rfl) (by kernel_rfl) (fun _ _ _ h => h) (by kernel_rfl) (fun _ => ex_pick _ _ _ false (.bool true) (.bool false) rfl (by kernel_rfl) (by kernel_rfl) (by kernel_rfl)) ?_
                        simp only [Act.put, List.setIfInBounds_toArray, List.set_cons_zero, List.set_cons_succ]
                        refine wpAny_at (i := 27) (v := .bool false) (some 78) rfl rfl (by kernel_rfl) (by kernel_rfl) (by kernel_rfl) (fun _ _ _ h => h) (by kernel_rfl) (fun _ => ex_pick _ _ _ true (.bool false) (.bool false) rfl (by kernel_rfl) (by kernel_rfl) (by kernel_rfl)) ?_
                        simp only [Act.put, List.setIfInBounds_toArray, List.set_cons_zero, List.set_cons_succ]
                        refine wpAny_done (by kernel_rfl) ?_ _
                        go_wp2_with fail
                        have HR7 := Lib.hid (HR4.out.of_block (hb7.block _ HR4.out.lt))
                        have HG7 := Lib.hid (HG4.out.of_block (hb7.block _ HG4.out.lt))
                        have HA7 := Lib.hid (HA4.out.keep (hb7.block _ hq4))
                        have HB7 := Lib.hid (HB4.out.trans (hb7.mono HB4.out.size))
                        have HRE : Hid (w7.rowIs N 4 (s.size + 1) (fun j => .bool (if j < m + 1 + 1 then advF x s g j else false))) := HR7.out.congr fun j hj => by
                          by_cases h : j = m + 1
                          · rw [if_pos h, if_pos (by omega), h, HVE.out]
                          · rw [if_neg h]
                            by_cases h2 : j < m + 1
                            · rw [if_pos h2, if_pos (by omega)]
                            · rw [if_neg h2, if_neg (by omega)]
                        go_roundg (s.size + 1 - (m + 1 + 1))
                        case measure => omega
                        case rel => exact ⟨m + 1 + 1, by omega, by go_num, HRE.out, HG7.out, HA7.out, HB7.out, Nat.le_refl _⟩
          · obtain rfl : i = s.size + 1 := by omega
            have hii : ¬ (((s.size + 1 : Nat)) : Int) < (s.size : Int) + 1 := by omega
            have HRE : Hid (wr.rowIs N 4 (s.size + 1) (fun j => .bool (advF x s g j))) := HR.out.congr fun j hj => by rw [if_pos hj]
            go_wp2_with fail
            go_roundg (l.length - (k + 1))
            case measure => omega
            case rel => exact ⟨k + 1, N, advF x s g, rfl, by go_num, by omega, by omega, HRE.out, HX2.out, HB.out, Nat.le_refl _⟩
      · have hki2 : ¬ (k : Int) < (l.length : Int) := by omega
        have HE : Hid (g = R) := by
          have h := HX.out
          rw [List.drop_eq_nil_of_le (by omega)] at h
          exact h
        go_wp2_with fail
        go_ret
        rw [HE.out] at HG
        exact ⟨b, rfl, hbw, HG.out, HB.out⟩

end Go.Proofs.YtfkojnofbpdjdaaGreatDoor

namespace Go.Proofs.YtfkojnofbpdjdaaGreatDoor
set_option maxRecDepth 100000
open Go.RowKit

/-- Block g holds n atoms, which may be written. -/
def RowA (w : World) (g n : Nat) (q : Nat → At) : Prop := g < w.heap.size ∧ ∀ t, t < n → w.rangeAt g (t * 34) (atC (q t)) ∧ w.there g (t * 34) 34
theorem RowA.congr {w : World} {g n : Nat} {q r : Nat → At} (h : RowA w g n q) (e : ∀ t, t < n → q t = r t) : RowA w g n r :=
  ⟨h.1, fun t ht => by rw [← e t ht]; exact h.2 t ht⟩
theorem RowA.drew {w : World} {g n : Nat} {q : Nat → At} (h : RowA w g n q) : RowA w.drew g n q := h
theorem setCells_size (g : Nat) : ∀ (vs : List Value) (o : Nat) (w : World), (w.setCells g o vs).heap.size = w.heap.size
  | [], _, _ => rfl
  | v :: r, o, w => by rw [World.setCells, setCells_size g r]; simp [World.setCell]
theorem below_setCells {B : Nat} {a : World} {g : Nat} (hg : B ≤ g) : ∀ (vs : List Value) (o : Nat) (w : World), Below B a w → Below B a (w.setCells g o vs)
  | [], _, _, h => h
  | v :: r, o, w, h => by rw [World.setCells]; exact below_setCells hg r _ _ (h.setCell (p := ⟨g, o, none⟩) hg v)
theorem RowA.set {w : World} {g n : Nat} {q : Nat → At} (h : RowA w g n q) (i : Nat) (hi : i < n) (x : At) : RowA (w.setCells g (i * 34) (atC x)) g n (fun t => if t = i then x else q t) :=
  ⟨by rw [setCells_size]; exact h.1, fun t ht => by
    refine ⟨?_, World.there_setCells (h.2 t ht).2 _ _ _⟩
    by_cases hti : t = i
    · subst hti
      show (w.setCells g (t * 34) (atC x)).rangeAt g (t * 34) (atC (if t = t then x else q t))
      rw [if_pos rfl]
      exact World.rangeAt_setCells_same w g (t * 34) (atC x) (by rw [atC_len]; exact (h.2 t ht).2)
    · show (w.setCells g (i * 34) (atC x)).rangeAt g (t * 34) (atC (if t = i then x else q t))
      rw [if_neg hti]
      refine World.rangeAt_setCells_apart (h.2 t ht).1 _ _ _ (.inr ?_)
      rw [atC_len, atC_len]
      omega⟩
def atAt (l : List At) (t : Nat) : At := l.getD t ⟨noP, 0, false⟩
theorem atAt_get (l : List At) (t : Nat) (h : t < l.length) : l[t]? = some (atAt l t) := by
  unfold atAt
  rw [List.getD_eq_getElem?_getD, List.getElem?_eq_getElem h]
  rfl
theorem RowA.of {w : World} {B g cap : Nat} {l : List At} (h : OwnE 107 atC 34 w B (.slice (some ⟨g, 0, none⟩) l.length cap) l) : RowA w g l.length (atAt l) ∧ B ≤ g := by
  obtain ⟨h0, h1 | ⟨g', cap', cur, hv, hbg, hg, hn, hm, hs, ht⟩⟩ := h
  · exact absurd h1.1 (by simp)
  injection hv with e1 _ _
  injection e1 with e1
  injection e1 with e1 _ _
  subst e1
  refine ⟨⟨(Array.getElem?_eq_some_iff.1 hg).1, fun t ht2 => ?_⟩, hbg⟩
  have hlt : ∀ j, j < 34 → t * 34 + j < l.length * 34 := fun j hj => by
    have : (t + 1) * 34 ≤ l.length * 34 := Nat.mul_le_mul_right _ ht2
    omega
  have hcell : ∀ j, j < 34 → w.cell? ⟨g, t * 34 + j, none⟩ = (atC (atAt l t))[j]? := fun j hj => by
    rw [cell_of_row _ _ _ _ _ _ hg]
    have h2 := flat_get atC 34 atC_len l t j (atAt l t) (atAt_get l t ht2) hj
    rw [← h2, ← ht, List.getElem?_take_of_lt (hlt j hj)]
    simp
  refine ⟨fun j v hj => ?_, fun j hj => ⟨?_, frozen_of_row _ _ _ _ _ hg⟩⟩
  · have hj34 : j < 34 := by rw [← atC_len (atAt l t)]; exact (List.getElem?_eq_some_iff.1 hj).1
    rw [hcell j hj34, hj]
  · rw [hcell j hj, List.getElem?_eq_getElem (by rw [atC_len]; exact hj)]
    rfl
theorem RowA.rd {w : World} {g n c : Nat} {q : Nat → At} (h : RowA w g n q) (l : List At) (hl : l.length = n) (hc : n ≤ c) (hq : ∀ t x, l[t]? = some x → q t = x) : RdE atC 34 w (.slice (some ⟨g, 0, none⟩) n c) l := by
  subst hl
  refine ⟨some ⟨g, 0, none⟩, c, rfl, hc, (fun e => by cases e), fun _ => ⟨g, 0, rfl, h.1, fun i x j u hi hj => ?_⟩⟩
  have hin := (List.getElem?_eq_some_iff.1 hi).1
  have := (h.2 i hin).1 j u (by rw [hq i x hi]; exact hj)
  rw [Nat.zero_add]
  exact this
/-- The first i and the last i exchanged. -/
def mirr (n i : Nat) (L : Nat → At) (t : Nat) : At := if t < i ∨ n ≤ t + i then L (n - 1 - t) else L t
theorem mirr_zero (n : Nat) (L : Nat → At) : ∀ t, t < n → L t = mirr n 0 L t := fun t ht => by
  unfold mirr
  rw [if_neg (by omega)]
theorem mirr_step (n i j : Nat) (L : Nat → At) (hj : j + i + 1 = n) (hij : i < j) : ∀ t, t < n →
    (if t = j then mirr n i L i else if t = i then mirr n i L j else mirr n i L t) = mirr n (i + 1) L t := fun t ht => by
  unfold mirr
  by_cases h1 : t = j
  · rw [if_pos h1, if_neg (show ¬ (i < i ∨ n ≤ i + i) by omega), if_pos (show t < i + 1 ∨ n ≤ t + (i + 1) by omega)]
    congr 1
    omega
  · rw [if_neg h1]
    by_cases h2 : t = i
    · rw [if_pos h2, if_neg (show ¬ (j < i ∨ n ≤ j + i) by omega), if_pos (show t < i + 1 ∨ n ≤ t + (i + 1) by omega)]
      congr 1
      omega
    · rw [if_neg h2]
      by_cases h3 : t < i ∨ n ≤ t + i
      · rw [if_pos h3, if_pos (show t < i + 1 ∨ n ≤ t + (i + 1) by omega)]
      · rw [if_neg h3, if_neg (show ¬ (t < i + 1 ∨ n ≤ t + (i + 1)) by omega)]
theorem mirr_end (n i : Nat) (L : Nat → At) (h1 : n ≤ 2 * i + 1) : ∀ t, t < n → mirr n i L t = L (n - 1 - t) := fun t ht => by
  unfold mirr
  by_cases h3 : t < i ∨ n ≤ t + i
  · rw [if_pos h3]
  · rw [if_neg h3]
    congr 1
    omega
theorem rev_at (l : List At) (t : Nat) (x : At) (h : l.reverse[t]? = some x) : atAt l (l.length - 1 - t) = x := by
  have ht : t < l.length := by simpa using (List.getElem?_eq_some_iff.1 h).1
  rw [List.getElem?_reverse ht, atAt_get l (l.length - 1 - t) (by omega)] at h
  exact Option.some.inj h
def RetRd (w : World) (B : Nat) (l : List At) (e : Ending) (w' : World) : Prop := ∃ v, e = .returned v ∧ RdE atC 34 w' v l ∧ Below B w w'
def RetOwnA (w : World) (l : List At) (e : Ending) (w' : World) : Prop := ∃ v, e = .returned v ∧ OwnE 107 atC 34 w' w.heap.size v l ∧ Below w.heap.size w w'

set_option maxRecDepth 100000 in
set_option maxHeartbeats 4000000 in
theorem clone_any (l : List At) (v : Value) (w : World) (hp : RdE atC 34 w v l) (hl : l.length ≤ 140737488355) :
    Calls Tryz.prog 153 #[v] w (RetOwnA w l) := by
  obtain ⟨R, HRR⟩ : ∃ R, Hid (R = RetOwnA w l) := ⟨_, rfl⟩
  rw [← HRR.out]
  have q22 : ∀ (w : World) (a : Option Addr) (n c n' c' : Nat), (binOp .eql 108 (.slice a n c) (.slice none n' c')).run Tryz.prog w = .ok (.bool a.isNone) w := fun w a n c n' c' => Lib.run_eql_slice_nil w _ _ a n c n' c' Tryz.underlying108
  obtain ⟨A, c, rfl, hlc, hn⟩ := hp.shape
  have HP := Lib.hid hp
  clear hp
  rcases A with _ | ad
  · have hc0 := hn rfl
    obtain rfl : l = [] := List.eq_nil_of_length_eq_zero (by omega)
    obtain rfl : c = 0 := hc0
    clear hn
    go_enter Tryz.func153, Tryz.ntmps153
    go_wp2_with fail
    rw [HRR.out]
    exact ⟨_, rfl, OwnE.nil, Below.refl _ _⟩
  · clear hn
    have HO : Hid (OwnE 107 atC 34 (w.alloc (.cells #[] 107)) w.heap.size (.slice (some ⟨w.heap.size, 0, none⟩) 0 0) []) := World.ownsRow_made (base := w.heap.size) (e := 107) (size := 34) w #[] 0 (Nat.le_refl _) (by decide) rfl
    have HQ := Lib.hid (HP.out.alloc (.cells #[] 107))
    go_enter Tryz.func153, Tryz.ntmps153
    go_wp2_with (refine wpList_appE rfl (.tmp 5) (.tmp 6) 108 107 rfl Tryz.underlying108 _ atC 34 48 atom_info rfl (by decide) atC_len atC_one w.heap.size (.slice (some ⟨w.heap.size, 0, none⟩) 0 0) [] rfl HO.out _ l rfl HQ.out (by simp only [List.length_nil]; omega) (by decide) (by simp) ?_; intro v1 w1 hown1 hbel1 hgrow1)
    rw [HRR.out]
    exact ⟨v1, rfl, hown1, hbel1 w.heap.size w (Nat.le_refl _) ((Below.refl _ w).alloc (Nat.le_refl _) _)⟩

set_option maxRecDepth 100000 in
set_option maxHeartbeats 8000000 in
theorem turn_any (B g c n : Nat) (L : Nat → At) (w : World) (hr : RowA w g n L) (hB : B ≤ g) (hn : n ≤ 140737488355) :
    Calls Tryz.prog 154 #[.slice (some ⟨g, 0, none⟩) n c] w fun e w' => e = .returned (.tuple #[]) ∧ RowA w' g n (fun t => L (n - 1 - t)) ∧ Below B w w' := by
  have hu := Tryz.underlying107
  have hi : (Tryz.prog.info? 107).map (·.size) = some 34 := atom_size
  have HR0 := Lib.hid (hr.congr (mirr_zero n L))
  have HB0 := Lib.hid (Below.refl B w)
  clear hr
  go_enter Tryz.func154, Tryz.ntmps154
  go_wp2_with fail
  obtain ⟨wo, HW⟩ : ∃ wo : World, Hid (wo = w) := ⟨w, rfl⟩
  go_loopg [2, 3] (n + 1) (fun m iv jv wr => ∃ i : Nat, iv = .int .i64 i ∧ jv = .int .i64 ((n : Int) - 1 - i) ∧ 2 * i ≤ n ∧ Hid (RowA wr g n (mirr n i L)) ∧ Hid (Below B w wr) ∧ n - i ≤ m)
  case atStart => exact ⟨0, rfl, by simp, by omega, HR0.out, HB0.out, by omega⟩
  case round =>
    clear HR0 HB0
    obtain ⟨i, rfl, rfl, hi2, HR, HB, hm⟩ := hrel
    by_cases hlt : 2 * i + 1 < n
    · have hlti : (i : Int) < (n : Int) - 1 - (i : Int) := by omega
      obtain ⟨j, hj⟩ : ∃ j, j + i + 1 = n := ⟨n - 1 - i, by omega⟩
      have hij : i < j := by omega
      have hin : (i : Int) < (n : Int) := by omega
      have hjn : (j : Int) < (n : Int) := by omega
      obtain ⟨k, hk⟩ : ∃ k : Int, k = (n : Int) - 1 - (i : Int) := ⟨_, rfl⟩
      rw [← hk] at hlti ⊢
      obtain rfl : k = (j : Int) := by omega
      clear hk
      have hji : (i : Int) < (j : Int) := by omega
      obtain ⟨q, HQ⟩ : ∃ q, Hid (q = mirr n i L) := ⟨_, rfl⟩
      have HST : Hid (∀ t, t < n → (if t = j then q i else if t = i then q j else q t) = mirr n (i + 1) L t) := by
        show _
        rw [HQ.out]
        exact mirr_step n i j L hj hij
      rw [← HQ.out] at HR
      clear HQ hlti
      have S1 : Hid (wr.drew.there g (i * 34) (atC (q j)).length) := by show World.there _ _ _ _; rw [atC_len]; exact (HR.out.drew.2 i (by omega)).2
      have HR1 := Lib.hid (HR.out.drew.set i (by omega) (q j))
      have S2 : Hid ((wr.drew.setCells g (i * 34) (atC (q j))).there g (j * 34) (atC (q i)).length) := by show World.there _ _ _ _; rw [atC_len]; exact (HR1.out.2 j (by omega)).2
      have HR2 := Lib.hid ((HR1.out.set j (by omega) (q i)).congr HST.out)
      have HB2 := Lib.hid (below_setCells hB (atC (q i)) (j * 34) _ (below_setCells hB (atC (q j)) (i * 34) _ HB.out.drew))
      have hsz1 : (Tryz.prog.info? 107).map (·.size) = some (atC (q j)).length := by rw [hi, atC_len]
      have hsz2 : (Tryz.prog.info? 107).map (·.size) = some (atC (q i)).length := by rw [hi, atC_len]
      have HI1 : Hid (∀ w, (Instr.indexAt 108 (.slice (some ⟨g, 0, none⟩) n c) (.int .i64 i)).run Tryz.prog w = .ok (.pointer (some ⟨g, i * 34, none⟩)) w) := fun w => by go_simp
      have HI2 : Hid (∀ w, (Instr.indexAt 108 (.slice (some ⟨g, 0, none⟩) n c) (.int .i64 j)).run Tryz.prog w = .ok (.pointer (some ⟨g, j * 34, none⟩)) w) := fun w => by go_simp
      go_wp2_with fail
      refine wp_region_at 16 #[false, false, false, false, false, false, false, false, false, false, false, false, false, false, false, false] rfl rfl (by kernel_rfl) ?_
      refine wpAny_at (i := 0) (v := .slice (some ⟨g, 0, none⟩) n c) (some 14) rfl rfl (by kernel_rfl) (by kernel_rfl) (by kernel_rfl) (fun _ _ _ h => h) (by kernel_rfl) (fun _ => ex_move _ _ rfl (by kernel_rfl)) ?_
      simp only [Act.put, List.setIfInBounds_toArray, List.set_cons_zero, List.set_cons_succ]
      refine wpAny_at (i := 1) (v := .int .i64 i) (some 15) rfl rfl (by kernel_rfl) (by kernel_rfl) (by kernel_rfl) (fun _ _ _ h => h) (by kernel_rfl) (fun _ => ex_move _ _ rfl (by kernel_rfl)) ?_
      simp only [Act.put, List.setIfInBounds_toArray, List.set_cons_zero, List.set_cons_succ]
      refine wpAny_at (i := 2) (v := .slice (some ⟨g, 0, none⟩) n c) (some 16) rfl rfl (by kernel_rfl) (by kernel_rfl) (by kernel_rfl) (fun _ _ _ h => h) (by kernel_rfl) (fun _ => ex_move _ _ rfl (by kernel_rfl)) ?_
      simp only [Act.put, List.setIfInBounds_toArray, List.set_cons_zero, List.set_cons_succ]
      refine wpAny_at (i := 3) (v := .int .i64 j) (some 17) rfl rfl (by kernel_rfl) (by kernel_rfl) (by kernel_rfl) (fun _ _ _ h => h) (by kernel_rfl) (fun _ => ex_move _ _ rfl (by kernel_rfl)) ?_
      simp only [Act.put, List.setIfInBounds_toArray, List.set_cons_zero, List.set_cons_succ]
      refine wpAny_at (i := 4) (v := .slice (some ⟨g, 0, none⟩) n c) (some 18) rfl rfl (by kernel_rfl) (by kernel_rfl) (by kernel_rfl) (fun _ _ _ h => h) (by kernel_rfl) (fun _ => ex_move _ _ rfl (by kernel_rfl)) ?_
      simp only [Act.put, List.setIfInBounds_toArray, List.set_cons_zero, List.set_cons_succ]
      refine wpAny_at (i := 5) (v := .int .i64 j) (some 19) rfl rfl (by kernel_rfl) (by kernel_rfl) (by kernel_rfl) (fun _ _ _ h => h) (by kernel_rfl) (fun _ => ex_move _ _ rfl (by kernel_rfl)) ?_
      simp only [Act.put, List.setIfInBounds_toArray, List.set_cons_zero, List.set_cons_succ]
      refine wpAny_at (i := 6) (v := .pointer (some ⟨g, j * 34, none⟩)) (some 20) rfl rfl (by kernel_rfl) (by kernel_rfl) (by kernel_rfl) (fun _ _ _ h => h) (by kernel_rfl) (fun _ => ex_indexAddr 108 _ _ (.slice (some ⟨g, 0, none⟩) n c) (.int .i64 j) _ rfl (by kernel_rfl) (by kernel_rfl) (HI2.out _)) ?_
      simp only [Act.put, List.setIfInBounds_toArray, List.set_cons_zero, List.set_cons_succ]
      refine wpAny_at (i := 8) (v := .slice (some ⟨g, 0, none⟩) n c) (some 22) rfl rfl (by kernel_rfl) (by kernel_rfl) (by kernel_rfl) (fun _ _ _ h => h) (by kernel_rfl) (fun _ => ex_move _ _ rfl (by kernel_rfl)) ?_
      simp only [Act.put, List.setIfInBounds_toArray, List.set_cons_zero, List.set_cons_succ]
      refine wpAny_at (i := 9) (v := .int .i64 i) (some 23) rfl rfl (by kernel_rfl) (by kernel_rfl) (by kernel_rfl) (fun _ _ _ h => h) (by kernel_rfl) (fun _ => ex_move _ _ rfl (by kernel_rfl)) ?_
      simp only [Act.put, List.setIfInBounds_toArray, List.set_cons_zero, List.set_cons_succ]
      refine wpAny_at (i := 10) (v := .pointer (some ⟨g, i * 34, none⟩)) (some 24) rfl rfl (by kernel_rfl) (by kernel_rfl) (by kernel_rfl) (fun _ _ _ h => h) (by kernel_rfl) (fun _ => ex_indexAddr 108 _ _ (.slice (some ⟨g, 0, none⟩) n c) (.int .i64 i) _ rfl (by kernel_rfl) (by kernel_rfl) (HI1.out _)) ?_
      simp only [Act.put, List.setIfInBounds_toArray, List.set_cons_zero, List.set_cons_succ]
      refine wpAny_loads 7 11 (some 21) (some 25) (by kernel_rfl) rfl rfl rfl rfl (by kernel_rfl) (by kernel_rfl) 107 (.tmp 20) rfl (g) (j * 34) (by kernel_rfl) (atC (q j)) _ ((HR.out.drew.2 j (by omega)).1) hu rfl (by rw [hi, atC_len]) 107 (.tmp 24) rfl (g) (i * 34) (by kernel_rfl) (atC (q i)) _ ((HR.out.drew.2 i (by omega)).1) hu rfl (by rw [hi, atC_len]) ?_ ?_
      · simp only [Act.put, List.setIfInBounds_toArray, List.set_cons_zero, List.set_cons_succ]
        refine wpAny_load 11 (some 25) (by kernel_rfl) rfl rfl (by kernel_rfl) 107 (.tmp 24) rfl (g) (i * 34) (by kernel_rfl) (atC (q i)) _ ((HR.out.drew.2 i (by omega)).1) hu rfl (by rw [hi, atC_len]) ?_
        simp only [Act.put, List.setIfInBounds_toArray, List.set_cons_zero, List.set_cons_succ]
        refine wpAny_at (i := 12) (v := .pointer (some ⟨g, i * 34, none⟩)) (some 26) rfl rfl (by kernel_rfl) (by kernel_rfl) (by kernel_rfl) (fun _ _ _ h => h) (by kernel_rfl) (fun _ => ex_indexAddr 108 _ _ (.slice (some ⟨g, 0, none⟩) n c) (.int .i64 i) _ rfl (by kernel_rfl) (by kernel_rfl) (HI1.out _)) ?_
        simp only [Act.put, List.setIfInBounds_toArray, List.set_cons_zero, List.set_cons_succ]
        refine wpAny_store 13 (by kernel_rfl) rfl rfl (by kernel_rfl) 107 (.tmp 26) (.tmp 21) rfl (g) (i * 34) (atC (q j)) (by kernel_rfl) (by kernel_rfl) (S1.out) (hsz1) (atC_oneA _) ?_
        simp only [Act.put, List.setIfInBounds_toArray, List.set_cons_zero, List.set_cons_succ]
        refine wpAny_at (i := 14) (v := .pointer (some ⟨g, j * 34, none⟩)) (some 27) rfl rfl (by kernel_rfl) (by kernel_rfl) (by kernel_rfl) (fun _ _ _ h => h) (by kernel_rfl) (fun _ => ex_indexAddr 108 _ _ (.slice (some ⟨g, 0, none⟩) n c) (.int .i64 j) _ rfl (by kernel_rfl) (by kernel_rfl) (HI2.out _)) ?_
        simp only [Act.put, List.setIfInBounds_toArray, List.set_cons_zero, List.set_cons_succ]
        refine wpAny_store 15 (by kernel_rfl) rfl rfl (by kernel_rfl) 107 (.tmp 27) (.tmp 25) rfl (g) (j * 34) (atC (q i)) (by kernel_rfl) (by kernel_rfl) (S2.out) (hsz2) (atC_oneA _) ?_
        simp only [Act.put, List.setIfInBounds_toArray, List.set_cons_zero, List.set_cons_succ]
        refine wpAny_done (by kernel_rfl) ?_ _
        go_wp2_with fail
        go_roundg (n - (i + 1))
        case measure => omega
        case rel => exact ⟨i + 1, by go_num, by (show Value.int .i64 _ = Value.int .i64 _); congr 1; omega, by omega, HR2.out, HB2.out, Nat.le_refl _⟩
      · simp only [Act.put, List.setIfInBounds_toArray, List.set_cons_zero, List.set_cons_succ]
        refine wpAny_load 7 (some 21) (by kernel_rfl) rfl rfl (by kernel_rfl) 107 (.tmp 20) rfl (g) (j * 34) (by kernel_rfl) (atC (q j)) _ ((HR.out.drew.2 j (by omega)).1) hu rfl (by rw [hi, atC_len]) ?_
        simp only [Act.put, List.setIfInBounds_toArray, List.set_cons_zero, List.set_cons_succ]
        refine wpAny_at (i := 12) (v := .pointer (some ⟨g, i * 34, none⟩)) (some 26) rfl rfl (by kernel_rfl) (by kernel_rfl) (by kernel_rfl) (fun _ _ _ h => h) (by kernel_rfl) (fun _ => ex_indexAddr 108 _ _ (.slice (some ⟨g, 0, none⟩) n c) (.int .i64 i) _ rfl (by kernel_rfl) (by kernel_rfl) (HI1.out _)) ?_
        simp only [Act.put, List.setIfInBounds_toArray, List.set_cons_zero, List.set_cons_succ]
        refine wpAny_store 13 (by kernel_rfl) rfl rfl (by kernel_rfl) 107 (.tmp 26) (.tmp 21) rfl (g) (i * 34) (atC (q j)) (by kernel_rfl) (by kernel_rfl) (S1.out) (hsz1) (atC_oneA _) ?_
        simp only [Act.put, List.setIfInBounds_toArray, List.set_cons_zero, List.set_cons_succ]
        refine wpAny_at (i := 14) (v := .pointer (some ⟨g, j * 34, none⟩)) (some 27) rfl rfl (by kernel_rfl) (by kernel_rfl) (by kernel_rfl) (fun _ _ _ h => h) (by kernel_rfl) (fun _ => ex_indexAddr 108 _ _ (.slice (some ⟨g, 0, none⟩) n c) (.int .i64 j) _ rfl (by kernel_rfl) (by kernel_rfl) (HI2.out _)) ?_
        simp only [Act.put, List.setIfInBounds_toArray, List.set_cons_zero, List.set_cons_succ]
        refine wpAny_store 15 (by kernel_rfl) rfl rfl (by kernel_rfl) 107 (.tmp 27) (.tmp 25) rfl (g) (j * 34) (atC (q i)) (by kernel_rfl) (by kernel_rfl) (S2.out) (hsz2) (atC_oneA _) ?_
        simp only [Act.put, List.setIfInBounds_toArray, List.set_cons_zero, List.set_cons_succ]
        refine wpAny_done (by kernel_rfl) ?_ _
        go_wp2_with fail
        go_roundg (n - (i + 1))
        case measure => omega
        case rel => exact ⟨i + 1, by go_num, by (show Value.int .i64 _ = Value.int .i64 _); congr 1; omega, by omega, HR2.out, HB2.out, Nat.le_refl _⟩
    · have hlti : ¬ (i : Int) < (n : Int) - 1 - (i : Int) := by omega
      have HE := Lib.hid (HR.out.congr (mirr_end n i L (by omega)))
      go_wp2_with fail
      go_end0
      exact ⟨rfl, HE.out, HB.out⟩

end Go.Proofs.YtfkojnofbpdjdaaGreatDoor

namespace Go.Proofs.YtfkojnofbpdjdaaGreatDoor
set_option maxRecDepth 100000
open Go.RowKit

set_option maxRecDepth 100000 in
set_option maxHeartbeats 4000000 in
theorem turn_nil (a : Option Addr) (c : Nat) (w : World) :
    Calls Tryz.prog 154 #[.slice a 0 c] w fun e w' => e = .returned (.tuple #[]) ∧ w = w' := by
  go_enter Tryz.func154, Tryz.ntmps154
  go_wp2_with fail
  go_loopg [2, 3] 0 (fun _ s2 s3 wr => s2 = .int .i64 0 ∧ s3 = .int .i64 (-1) ∧ w = wr)
  case atStart => exact ⟨rfl, rfl, rfl⟩
  case round =>
    obtain ⟨rfl, rfl, rfl⟩ := hrel
    go_wp2_with fail
    go_end0
    exact ⟨rfl, rfl⟩

set_option maxRecDepth 100000 in
set_option maxHeartbeats 4000000 in
theorem revp_any (l : List At) (v : Value) (w : World) (hp : RdE atC 34 w v l) (hl : l.length ≤ 140737488355) :
    Calls Tryz.prog 103 #[v] w (RetRd w w.heap.size l.reverse) := by
  obtain ⟨R, HRR⟩ : ∃ R, Hid (R = RetRd w w.heap.size l.reverse) := ⟨_, rfl⟩
  rw [← HRR.out]
  have HC := Lib.hid (clone_any l v w hp hl)
  clear hp
  go_enter Tryz.func103, Tryz.ntmps103
  go_upto_region 2 with (go_at_call 153; refine HC.out.mono ?_; rintro e w1 ⟨v1, rfl, hown, hb1⟩)
  have HB1 := Lib.hid hb1
  rcases hown.2 with ⟨rfl, h0⟩ | ⟨g, cap, cur, rfl, hbg, hh, hc, hcm, hs, htk⟩
  · obtain rfl : l = [] := List.eq_nil_of_length_eq_zero h0
    clear hown hb1 HC
    go_wp2_with (go_at_call 154; refine (turn_nil _ _ _).mono ?_; rintro e w' ⟨rfl, rfl⟩)
    rw [HRR.out]
    exact ⟨_, rfl, RdE.nil, HB1.out⟩
  · have hra := RowA.of hown
    have HT := Lib.hid (turn_any g g cap l.length (atAt l) w1 hra.1 (Nat.le_refl _) hl)
    have hgg := hra.2
    clear hra hown hh htk hs hcm hb1 HC
    go_wp2_with (go_at_call 154; refine HT.out.mono ?_; rintro e w2 ⟨rfl, hr2, hb2⟩)
    rw [HRR.out]
    refine ⟨_, rfl, hr2.rd l.reverse (by simp) hc (fun t x h => rev_at l t x h), HB1.out.trans (hb2.mono hgg)⟩

end Go.Proofs.YtfkojnofbpdjdaaGreatDoor

namespace Go.Proofs.YtfkojnofbpdjdaaGreatDoor
set_option maxRecDepth 100000
open Go.RowKit

/-- A slice value by its parts. -/
structure Sl where
  A : Option Addr
  n : Nat
  c : Nat
def Sl.v (x : Sl) : Value := .slice x.A x.n x.c
structure RuV where
  b : Bool
  u : Sl
  t : Sl
def ruC (x : RuV) : List Value := [.bool x.b, x.u.v, x.t.v]
theorem ruC_len (x : RuV) : (ruC x).length = 3 := rfl
theorem ruC_one (x : RuV) : ∀ v ∈ ruC x, v.oneCell' = true := by
  intro v hv
  simp [ruC, Sl.v] at hv
  rcases hv with rfl | rfl | rfl <;> rfl
structure TbV where
  nm : ByteArray
  pa : ByteArray
  r : Sl
def tbC (x : TbV) : List Value := [.string x.nm, .string x.pa, x.r.v]
theorem tbC_len (x : TbV) : (tbC x).length = 3 := rfl
/-- What holds as long as the blocks that are not in X read as they did. -/
def Keep (X : List Nat) (w : World) (φ : World → Prop) : Prop := ∀ w' : World, w.heap.size ≤ w'.heap.size → (∀ b, b < w.heap.size → b ∉ X → w'.heap[b]? = w.heap[b]?) → φ w'
theorem Keep.now {X : List Nat} {w : World} {φ : World → Prop} (h : Keep X w φ) : φ w := h w (Nat.le_refl _) (fun _ _ _ => rfl)
theorem Keep.step {X Y : List Nat} {w w' : World} {φ : World → Prop} (h : Keep X w φ) (hs : w.heap.size ≤ w'.heap.size) (hb : ∀ b, b < w.heap.size → b ∉ X → w'.heap[b]? = w.heap[b]? ∧ b ∉ Y) : Keep Y w' φ :=
  fun u hu hk => h u (Nat.le_trans hs hu) (fun b hlt hX => (hk b (Nat.lt_of_lt_of_le hlt hs) (hb b hlt hX).2).trans (hb b hlt hX).1)
theorem Keep.imp {X : List Nat} {w : World} {φ ψ : World → Prop} (h : Keep X w φ) (e : ∀ u, φ u → ψ u) : Keep X w ψ := fun u hu hk => e u (h u hu hk)
theorem Keep.and {X : List Nat} {w : World} {φ ψ : World → Prop} (h : Keep X w φ) (g : Keep X w ψ) : Keep X w fun u => φ u ∧ ψ u := fun u hu hk => ⟨h u hu hk, g u hu hk⟩

section
variable {α : Type} {e : TypeId} {f : α → List Value} {m : Nat} {w w' : World} {B : Nat} {v : Value} {l : List α}
/-- A slice whose block is not in X. -/
theorem RdE.keepX {X : List Nat} (h : RdE f m w v l) (hX : ∀ b o s n c, v = .slice (some ⟨b, o, s⟩) n c → b ∉ X) : Keep X w fun u => RdE f m u v l := fun u hu hk => by
  obtain ⟨A, c, hv, hc, hn, h⟩ := h
  refine ⟨A, c, hv, hc, hn, fun h0 => ?_⟩
  obtain ⟨b, o, rfl, hb, hx⟩ := h h0
  refine ⟨b, o, rfl, Nat.lt_of_lt_of_le hb hu, fun i x j y hi hj => ?_⟩
  rw [World.cell?_of_block (w := w) (hk b hb (hX _ _ _ _ _ hv))]
  exact hx i x j y hi hj
theorem OwnE.keepX {X : List Nat} (hm : ∀ x, (f x).length = m) (h : OwnE e f m w B v l) (hX : ∀ b ∈ X, b < B ∨ v.ownBlock ≠ some b) : Keep X w fun u => RdE f m u v l :=
  RdE.keepX (h.rd hm) fun b o s n c hv hb => by
    rcases h.2 with ⟨rfl, _⟩ | ⟨g, cap, cur, rfl, hg, _⟩
    · cases hv
    · injection hv with h1 _ _
      injection h1 with h1
      injection h1 with h1 _ _
      subst h1
      rcases hX _ hb with h2 | h2
      · omega
      · exact h2 rfl
end

/-- A slice that reads as rules. -/
def RdRu (w : World) (v : Value) (l : List Ru) : Prop := ∃ xs : List RuV, RdE ruC 3 w v xs ∧ xs.length = l.length ∧ ∀ (i : Nat) (x : RuV) (r : Ru), xs[i]? = some x → l[i]? = some r → x.b = r.br ∧ RdE atC 34 w x.u.v r.bf ∧ RdE atC 34 w x.t.v r.af
def RdTb (w : World) (v : Value) (l : List Tb) : Prop := ∃ xs : List TbV, RdE tbC 3 w v xs ∧ xs.length = l.length ∧ ∀ (i : Nat) (x : TbV) (t : Tb), xs[i]? = some x → l[i]? = some t → x.nm = t.nm ∧ x.pa = t.pa ∧ RdRu w x.r.v t.rs
theorem RdRu.below {w w' : World} {B : Nat} {v : Value} {l : List Ru} (h : RdRu w v l) (hb : Below B w w') (hB : w.heap.size ≤ B) : RdRu w' v l := by
  obtain ⟨xs, h1, h2, h3⟩ := h
  exact ⟨xs, h1.below hb hB, h2, fun i x r hx hr => ⟨(h3 i x r hx hr).1, (h3 i x r hx hr).2.1.below hb hB, (h3 i x r hx hr).2.2.below hb hB⟩⟩
theorem RdTb.below {w w' : World} {B : Nat} {v : Value} {l : List Tb} (h : RdTb w v l) (hb : Below B w w') (hB : w.heap.size ≤ B) : RdTb w' v l := by
  obtain ⟨xs, h1, h2, h3⟩ := h
  exact ⟨xs, h1.below hb hB, h2, fun i x r hx hr => ⟨(h3 i x r hx hr).1, (h3 i x r hx hr).2.1, (h3 i x r hx hr).2.2.below hb hB⟩⟩
theorem RdRu.shape {w : World} {v : Value} {l : List Ru} (h : RdRu w v l) : ∃ A c, v = .slice A l.length c := by
  obtain ⟨xs, h1, h2, _⟩ := h
  obtain ⟨A, c, hv, _⟩ := h1.shape
  exact ⟨A, c, by rw [← h2]; exact hv⟩
theorem RdTb.shape {w : World} {v : Value} {l : List Tb} (h : RdTb w v l) : ∃ A c, v = .slice A l.length c := by
  obtain ⟨xs, h1, h2, _⟩ := h
  obtain ⟨A, c, hv, _⟩ := h1.shape
  exact ⟨A, c, by rw [← h2]; exact hv⟩
theorem RdRu.nil {w : World} : RdRu w (.slice none 0 0) [] := ⟨[], RdE.nil, rfl, fun _ _ _ h => by simp at h⟩
theorem RdTb.nil {w : World} : RdTb w (.slice none 0 0) [] := ⟨[], RdE.nil, rfl, fun _ _ _ h => by simp at h⟩

end Go.Proofs.YtfkojnofbpdjdaaGreatDoor
