
/-
  The places where a pattern can end, the program's.
-/
import Derived.Test.YtpboaadjbkaidaaDoorSegE
import Derived.Test.YtpboaadjbkaidaaDoorStillK
namespace Go.Proofs.YtpboaadjbkaidaaDoor
set_option maxRecDepth 100000
open Go.RowKit

theorem at_range {w : World} {q : Nat} {x : At} (h : AtIn w q x) : w.drew.rangeAt q 0 (atC x) := fun j v hj => by
  rw [Nat.zero_add]
  show w.cell? _ = _
  rw [cell_of_row _ _ _ _ _ _ h]
  simpa using hj

set_option maxRecDepth 100000 in
set_option maxHeartbeats 8000000 in
theorem ends_any (l : List At) (s : ByteArray) (lv : Value) (w : World) (hp : RdE atC 34 w lv l) (hs : s.size ≤ 1048576) (hl : l.length ≤ 140737488355328) :
    Calls Tryd.prog 50 #[lv, .string s] w (RetPl w (s.size + 1) (reachF s l allF)) := by
  obtain ⟨A, c, rfl, hlc, _⟩ := hp.shape
  have HP := Lib.hid hp
  clear hp
  have hu := Tryd.underlying26
  have hi : (Tryd.prog.info? 26).map (·.size) = some 34 := atom_size
  have hmk := fun w => run_make_row' (P := Tryd.prog) 86 4 (.bool false) 1 Tryd.underlying86 bool_info rfl .i64 .i64 (s.size + 1) (by omega) (by omega) w
  rw [show ((s.size + 1 : Nat) : Int) = (s.size : Int) + 1 by omega] at hmk
  obtain ⟨R, HRR⟩ : ∃ R, Hid (R = reachF s l allF) := ⟨_, rfl⟩
  rw [← HRR.out]
  go_enter Tryd.func50, Tryd.ntmps50
  have HR0 : Hid ((w.alloc (.cells (madeCells #[.bool false] (s.size + 1)) 4)).rowIs w.heap.size 4 (s.size + 1) (fun j => .bool (decide (j < 0)))) := (World.rowIs_made w (.bool false) (s.size + 1) 4).congr fun j _ => by rw [decide_eq_false (by omega)]
  have HB0 := Lib.hid ((Below.refl w.heap.size w).alloc (Nat.le_refl _) (.cells (madeCells #[.bool false] (s.size + 1)) 4))
  go_upto_region 2 with fail
  generalize w.alloc (.cells (madeCells #[.bool false] (s.size + 1)) 4) = w1 at HR0 HB0 ⊢
  go_wp2_with fail
  go_loopg [17] (s.size + 1) (fun gk kv wr => ∃ k : Nat, k ≤ s.size + 1 ∧ kv = .int .i64 k ∧ Hid (wr.rowIs w.heap.size 4 (s.size + 1) (fun j => .bool (decide (j < k)))) ∧ Hid (Below w.heap.size w wr) ∧ s.size + 1 - k ≤ gk)
  case atStart => exact ⟨0, by omega, rfl, HR0.out, HB0.out, by omega⟩
  case round =>
    clear HR0 HB0
    obtain ⟨k, hk, rfl, HR, HB, hgk⟩ := hrel
    by_cases hkl : k < s.size + 1
    · have hki : (k : Int) < (s.size : Int) + 1 := by omega
      have r0 := HR.out.cell (i := k) hkl
      have rf := HR.out.frozen k
      have HR1 : Hid ((wr.setCell ⟨w.heap.size, k, none⟩ (.bool true)).rowIs w.heap.size 4 (s.size + 1) (fun j => .bool (decide (j < k + 1)))) := (HR.out.set k (.bool true)).congr fun j _ => by
        by_cases h : j = k
        · rw [if_pos h, decide_eq_true (by omega)]
        · rw [if_neg h]
          congr 1
          rw [decide_eq_decide]
          omega
      go_wp2_with fail
      go_roundg (s.size + 1 - (k + 1))
      case measure => omega
      case rel => exact ⟨k + 1, by omega, by go_num, HR1.out, HB.out.setCell (p := ⟨w.heap.size, k, none⟩) (Nat.le_refl _) _, Nat.le_refl _⟩
    obtain rfl : k = s.size + 1 := by omega
    have hki : ¬ (((s.size + 1 : Nat)) : Int) < (s.size : Int) + 1 := by omega
    have HRA : Hid (wr.rowIs w.heap.size 4 (s.size + 1) (fun j => .bool (allF j))) := HR.out.congr fun j hj => by rw [decide_eq_true hj]; rfl
    clear HR
    go_wp2_with fail
    obtain ⟨wo, HWO⟩ : ∃ wo, Hid (wo = wr) := ⟨wr, rfl⟩
    go_loopg [5, 26] l.length (fun gk pv kv wr => ∃ (k b : Nat) (g : Nat → Bool), pv = .slice (some ⟨b, 0, none⟩) (s.size + 1) (s.size + 1) ∧ kv = .int .i64 k ∧ k ≤ l.length ∧ w.heap.size ≤ b ∧ Hid (wr.rowIs b 4 (s.size + 1) (fun j => .bool (g j))) ∧ Hid (reachF s (l.drop k) g = R) ∧ Hid (Below w.heap.size w wr) ∧ l.length - k ≤ gk)
    case atStart => exact ⟨0, w.heap.size, allF, rfl, rfl, by omega, by omega, HRA.out, by (show _ = _); rw [HRR.out]; rfl, HB.out, by omega⟩
    case round =>
      clear HRA HB HWO
      obtain ⟨k, b, g, rfl, rfl, hk2, hbw, HG, HX, HB, hgk2⟩ := hrel
      by_cases hkl : k < l.length
      · have hki2 : (k : Int) < (l.length : Int) := by omega
        have hk0 : (0 : Int) ≤ (k : Int) := by omega
        obtain ⟨bp, o, rfl, hbl, hcell⟩ := HP.out.cells (by omega)
        have hx : l[k]? = some l[k] := List.getElem?_eq_getElem hkl
        have HX2 : Hid (reachF s (l.drop (k + 1)) (advF l[k] s g) = R) := by
          have h := HX.out
          rw [List.drop_eq_getElem_cons hkl] at h
          exact h
        have hrg : wr.rangeAt bp (o + k * 34) (atC l[k]) := fun j v hj => by
          rw [Nat.add_assoc]
          exact (HB.out.cell (p := ⟨bp, o + (k * 34 + j), none⟩) hbl).trans (hcell k _ j v hx hj)
        clear HX hx hcell
        generalize l[k] = x at HX2 hrg
        have hz := HB.out.size
        have HA1 := Lib.hid ((at_zero wr).row x)
        have HB1 : Hid (Below w.heap.size w ((wr.alloc (.cells #[.int .u8 0, .int .u8 0, .int .u8 0, .int .u8 0, .int .u8 0, .int .u8 0, .int .u8 0, .int .u8 0, .int .u8 0, .int .u8 0, .int .u8 0, .int .u8 0, .int .u8 0, .int .u8 0, .int .u8 0, .int .u8 0, .int .u8 0, .int .u8 0, .int .u8 0, .int .u8 0, .int .u8 0, .int .u8 0, .int .u8 0, .int .u8 0, .int .u8 0, .int .u8 0, .int .u8 0, .int .u8 0, .int .u8 0, .int .u8 0, .int .u8 0, .int .u8 0, .int .i64 0, .bool false] 26)).setRow wr.heap.size (atC x).toArray)) := below_setRow (HB.out.alloc hz _) hz _
        have HK1 : Hid (Below wr.heap.size wr ((wr.alloc (.cells #[.int .u8 0, .int .u8 0, .int .u8 0, .int .u8 0, .int .u8 0, .int .u8 0, .int .u8 0, .int .u8 0, .int .u8 0, .int .u8 0, .int .u8 0, .int .u8 0, .int .u8 0, .int .u8 0, .int .u8 0, .int .u8 0, .int .u8 0, .int .u8 0, .int .u8 0, .int .u8 0, .int .u8 0, .int .u8 0, .int .u8 0, .int .u8 0, .int .u8 0, .int .u8 0, .int .u8 0, .int .u8 0, .int .u8 0, .int .u8 0, .int .u8 0, .int .u8 0, .int .i64 0, .bool false] 26)).setRow wr.heap.size (atC x).toArray)) := below_setRow ((Below.refl _ wr).alloc (Nat.le_refl _) _) (Nat.le_refl _) _
        go_upto_region 10 with (first
          | (refine wpList_load_mid rfl 26 (.tmp 28) rfl bp (o + k * 34) rfl (atC x) _ hrg hu rfl (by rw [hi, atC_len]) ?_)
          | (refine wpList_store_row rfl 26 (.tmp 8) (.tmp 29) rfl (wr.heap.size) (atC x).toArray rfl rfl 26 (atC ⟨noP, 0, false⟩).toArray (at_zero wr) (by rw [atom_size, atC_size]) (by simp only [atC_size]) (atC_oneA _) ?_))
        have HG1 := Lib.hid (HG.out.of_block (w' := (wr.alloc (.cells #[.int .u8 0, .int .u8 0, .int .u8 0, .int .u8 0, .int .u8 0, .int .u8 0, .int .u8 0, .int .u8 0, .int .u8 0, .int .u8 0, .int .u8 0, .int .u8 0, .int .u8 0, .int .u8 0, .int .u8 0, .int .u8 0, .int .u8 0, .int .u8 0, .int .u8 0, .int .u8 0, .int .u8 0, .int .u8 0, .int .u8 0, .int .u8 0, .int .u8 0, .int .u8 0, .int .u8 0, .int .u8 0, .int .u8 0, .int .u8 0, .int .u8 0, .int .u8 0, .int .i64 0, .bool false] 26)).setRow wr.heap.size (atC x).toArray) (HK1.out.block _ HG.out.lt))
        have hbq : b < wr.heap.size := HG.out.lt
        have hz1 := HK1.out.size
        have hqz : wr.heap.size < ((wr.alloc (.cells #[.int .u8 0, .int .u8 0, .int .u8 0, .int .u8 0, .int .u8 0, .int .u8 0, .int .u8 0, .int .u8 0, .int .u8 0, .int .u8 0, .int .u8 0, .int .u8 0, .int .u8 0, .int .u8 0, .int .u8 0, .int .u8 0, .int .u8 0, .int .u8 0, .int .u8 0, .int .u8 0, .int .u8 0, .int .u8 0, .int .u8 0, .int .u8 0, .int .u8 0, .int .u8 0, .int .u8 0, .int .u8 0, .int .u8 0, .int .u8 0, .int .u8 0, .int .u8 0, .int .i64 0, .bool false] 26)).setRow wr.heap.size (atC x).toArray).heap.size := (Array.getElem?_eq_some_iff.1 HA1.out).1
        clear HB hrg HG HK1
        generalize wr.heap.size = q at HA1 HB1 HG1 hz hbq hz1 hqz ⊢
        generalize (wr.alloc (.cells #[.int .u8 0, .int .u8 0, .int .u8 0, .int .u8 0, .int .u8 0, .int .u8 0, .int .u8 0, .int .u8 0, .int .u8 0, .int .u8 0, .int .u8 0, .int .u8 0, .int .u8 0, .int .u8 0, .int .u8 0, .int .u8 0, .int .u8 0, .int .u8 0, .int .u8 0, .int .u8 0, .int .u8 0, .int .u8 0, .int .u8 0, .int .u8 0, .int .u8 0, .int .u8 0, .int .u8 0, .int .u8 0, .int .u8 0, .int .u8 0, .int .u8 0, .int .u8 0, .int .i64 0, .bool false] 26)).setRow q (atC x).toArray = w2 at HA1 HB1 HG1 hz1 hqz ⊢
        have HR1 : Hid ((w2.alloc (.cells (madeCells #[.bool false] (s.size + 1)) 4)).rowIs w2.heap.size 4 (s.size + 1) (fun j => .bool (if j < 0 then advF x s g j else false))) := (World.rowIs_made w2 (.bool false) (s.size + 1) 4).congr fun j _ => by rw [if_neg (Nat.not_lt_zero j)]
        have HB2 := Lib.hid (HB1.out.alloc (by omega) (.cells (madeCells #[.bool false] (s.size + 1)) 4))
        have HA2 : Hid (AtIn (w2.alloc (.cells (madeCells #[.bool false] (s.size + 1)) 4)) q x) := HA1.out.keep (Below.heap_alloc w2 _ q hqz)
        have HG2 := Lib.hid (HG1.out.of_block (w' := w2.alloc (.cells (madeCells #[.bool false] (s.size + 1)) 4)) (Below.heap_alloc w2 _ b (by omega)))
        go_upto_region 11 with fail
        clear HB1 HA1 HG1 hz1
        generalize w2.heap.size = N at HR1 hqz ⊢
        generalize w2.alloc (.cells (madeCells #[.bool false] (s.size + 1)) 4) = w3 at HR1 HB2 HA2 HG2 ⊢
        go_wp2_with fail
        obtain ⟨wo2, HWO2⟩ : ∃ wo, Hid (wo = w3) := ⟨w3, rfl⟩
        go_loopg [36] (s.size + 1) (fun gk kv wr => ∃ i : Nat, i ≤ s.size + 1 ∧ kv = .int .i64 i ∧ Hid (wr.rowIs N 4 (s.size + 1) (fun j => .bool (if j < i then advF x s g j else false))) ∧ Hid (wr.rowIs b 4 (s.size + 1) (fun j => .bool (g j))) ∧ Hid (AtIn wr q x) ∧ Hid (Below w.heap.size w wr) ∧ s.size + 1 - i ≤ gk)
        case atStart => exact ⟨0, by omega, rfl, HR1.out, HG2.out, HA2.out, HB2.out, by omega⟩
        case round =>
          clear HR1 HG2 HA2 HB2
          obtain ⟨i, hil0, rfl, HR, HG, HA, HB, hgk3⟩ := hrel
          by_cases hil : i < s.size + 1
          · have hii : (i : Int) < (s.size : Int) + 1 := by omega
            have hi0 : (0 : Int) ≤ (i : Int) := by omega
            have qm := HA.out.mn
            have qg := HG.out.cell (i := i) hil
            have r0 := HR.out.cell (i := i) hil
            rw [if_neg (Nat.lt_irrefl i)] at r0
            have rf := HR.out.frozen i
            have hbN : b < N := by omega
            obtain ⟨gi, hgi⟩ : ∃ gi, g i = gi := ⟨_, rfl⟩
            rw [hgi] at qg
            by_cases hm : x.mn < 1
            · have HBI : Hid ((decide (x.mn < 1) && g i) = gi) := by show _ = _; rw [decide_eq_true hm, hgi]; rfl
              have HR1 : Hid ((wr.setCell ⟨N, i, none⟩ (.bool gi)).rowIs N 4 (s.size + 1) (fun j => .bool (if j = i then gi else if j < i then advF x s g j else false))) := (HR.out.set i (.bool gi)).congr fun j hj => by
                by_cases h : j = i
                · rw [if_pos h, if_pos h]
                · rw [if_neg h, if_neg h]
              have HG1 := Lib.hid (HG.out.of_block (w' := (wr.setCell ⟨N, i, none⟩ (.bool gi))) (Below.heap_setCell _ _ _ _ (show b ≠ N by omega)))
              have HA1 : Hid (AtIn (wr.setCell ⟨N, i, none⟩ (.bool gi)) q x) := HA.out.keep (Below.heap_setCell _ _ _ _ (show q ≠ N by omega))
              have HB1 : Hid (Below w.heap.size w (wr.setCell ⟨N, i, none⟩ (.bool gi))) := HB.out.setCell (p := ⟨N, i, none⟩) (show w.heap.size ≤ N by omega) _
              have hN4 : N < (wr.setCell ⟨N, i, none⟩ (.bool gi)).heap.size := HR1.out.lt
              go_upto_region 15 with fail
              clear HR HG HA HB qm qg r0 rf hgi
              generalize (wr.setCell ⟨N, i, none⟩ (.bool gi)) = w4 at HR1 HG1 HA1 HB1 hN4 ⊢
              rcases i with _ | m
              · have HVE : Hid (advF x s g 0 = gi) := by show _ = _; rw [adv_zero, HBI.out]
                refine wp_region_at 28 #[false, false, false, false, false, false, false, false, false, false, false, false, false, false, false, false, false, false, false, false, false, false, false, false, false, false, false, false] rfl rfl (by kernel_rfl) ?_
                refine wpAny_at (i := 0) (v := .int .i64 0) (some 51) rfl rfl (by kernel_rfl) (by kernel_rfl) (by kernel_rfl) (fun _ _ _ h => h) (by kernel_rfl) (fun _ => ex_move _ _ rfl (by kernel_rfl)) ?_
                simp only [Act.put, List.setIfInBounds_toArray, List.set_cons_zero, List.set_cons_succ]
                refine wpAny_at (i := 1) (v := .bool false) (some 52) rfl rfl (by kernel_rfl) (by kernel_rfl) (by kernel_rfl) (fun _ _ _ h => h) (by kernel_rfl) (fun _ => ex_binOp .gtr 3 _ _ _ (.int .i64 0) (.int .i64 0) _ rfl (by kernel_rfl) (by kernel_rfl) (by go_simp)) ?_
                simp only [Act.put, List.setIfInBounds_toArray, List.set_cons_zero, List.set_cons_succ]
                refine wpAny_at (i := 2) (v := .bool false) (some 53) rfl rfl (by kernel_rfl) (by kernel_rfl) (by kernel_rfl) (fun _ _ _ h => h) (by kernel_rfl) (fun _ => ex_move _ _ rfl (by kernel_rfl)) ?_
                simp only [Act.put, List.setIfInBounds_toArray, List.set_cons_zero, List.set_cons_succ]
                refine wpAny_skip 3 (some 54) rfl rfl (by kernel_rfl) (by kernel_rfl) (by kernel_rfl) (fun _ _ _ h => h) (by kernel_rfl) ?_
                simp only [Act.put, List.setIfInBounds_toArray, List.set_cons_zero, List.set_cons_succ]
                refine wpAny_skip 4 (some 55) rfl rfl (by kernel_rfl) (by kernel_rfl) (by kernel_rfl) (fun _ _ _ h => h) (by kernel_rfl) ?_
                simp only [Act.put, List.setIfInBounds_toArray, List.set_cons_zero, List.set_cons_succ]
                refine wpAny_skip 5 (some 56) rfl rfl (by kernel_rfl) (by kernel_rfl) (by kernel_rfl) (fun _ _ _ h => h) (by kernel_rfl) ?_
                simp only [Act.put, List.setIfInBounds_toArray, List.set_cons_zero, List.set_cons_succ]
                refine wpAny_skip 6 (some 57) rfl rfl (by kernel_rfl) (by kernel_rfl) (by kernel_rfl) (fun _ _ _ h => h) (by kernel_rfl) ?_
                simp only [Act.put, List.setIfInBounds_toArray, List.set_cons_zero, List.set_cons_succ]
                refine wpAny_skip 7 (some 58) rfl rfl (by kernel_rfl) (by kernel_rfl) (by kernel_rfl) (fun _ _ _ h => h) (by kernel_rfl) ?_
                simp only [Act.put, List.setIfInBounds_toArray, List.set_cons_zero, List.set_cons_succ]
                refine wpAny_skip 8 (some 59) rfl rfl (by kernel_rfl) (by kernel_rfl) (by kernel_rfl) (fun _ _ _ h => h) (by kernel_rfl) ?_
                simp only [Act.put, List.setIfInBounds_toArray, List.set_cons_zero, List.set_cons_succ]
                refine wpAny_at (i := 9) (v := .bool false) (some 60) rfl rfl (by kernel_rfl) (by kernel_rfl) (by kernel_rfl) (fun _ _ _ h => h) (by kernel_rfl) (fun _ => ex_pick _ _ _ false (undef) (.bool false) rfl (by kernel_rfl) (by kernel_rfl) (by kernel_rfl)) ?_
                simp only [Act.put, List.setIfInBounds_toArray, List.set_cons_zero, List.set_cons_succ]
                refine wpAny_at (i := 10) (v := .bool false) (some 61) rfl rfl (by kernel_rfl) (by kernel_rfl) (by kernel_rfl) (fun _ _ _ h => h) (by kernel_rfl) (fun _ => ex_move _ _ rfl (by kernel_rfl)) ?_
                simp only [Act.put, List.setIfInBounds_toArray, List.set_cons_zero, List.set_cons_succ]
                refine wpAny_skip 11 (some 62) rfl rfl (by kernel_rfl) (by kernel_rfl) (by kernel_rfl) (fun _ _ _ h => h) (by kernel_rfl) ?_
                simp only [Act.put, List.setIfInBounds_toArray, List.set_cons_zero, List.set_cons_succ]
                refine wpAny_skip 12 (some 63) rfl rfl (by kernel_rfl) (by kernel_rfl) (by kernel_rfl) (fun _ _ _ h => h) (by kernel_rfl) ?_
                simp only [Act.put, List.setIfInBounds_toArray, List.set_cons_zero, List.set_cons_succ]
                refine wpAny_skip 13 (some 64) rfl rfl (by kernel_rfl) (by kernel_rfl) (by kernel_rfl) (fun _ _ _ h => h) (by kernel_rfl) ?_
                simp only [Act.put, List.setIfInBounds_toArray, List.set_cons_zero, List.set_cons_succ]
                refine wpAny_skip 14 (some 65) rfl rfl (by kernel_rfl) (by kernel_rfl) (by kernel_rfl) (fun _ _ _ h => h) (by kernel_rfl) ?_
                simp only [Act.put, List.setIfInBounds_toArray, List.set_cons_zero, List.set_cons_succ]
                refine wpAny_skip 15 (some 66) rfl rfl (by kernel_rfl) (by kernel_rfl) (by kernel_rfl) (fun _ _ _ h => h) (by kernel_rfl) ?_
                simp only [Act.put, List.setIfInBounds_toArray, List.set_cons_zero, List.set_cons_succ]
                refine wpAny_skip 16 (some 67) rfl rfl (by kernel_rfl) (by kernel_rfl) (by kernel_rfl) (fun _ _ _ h => h) (by kernel_rfl) ?_
                simp only [Act.put, List.setIfInBounds_toArray, List.set_cons_zero, List.set_cons_succ]
                refine wpAny_skip 17 (some 68) rfl rfl (by kernel_rfl) (by kernel_rfl) (by kernel_rfl) (fun _ _ _ h => h) (by kernel_rfl) ?_
                simp only [Act.put, List.setIfInBounds_toArray, List.set_cons_zero, List.set_cons_succ]
                refine wpAny_skip 18 (some 69) rfl rfl (by kernel_rfl) (by kernel_rfl) (by kernel_rfl) (fun _ _ _ h => h) (by kernel_rfl) ?_
                simp only [Act.put, List.setIfInBounds_toArray, List.set_cons_zero, List.set_cons_succ]
                refine wpAny_skip 19 (some 70) rfl rfl (by kernel_rfl) (by kernel_rfl) (by kernel_rfl) (fun _ _ _ h => h) (by kernel_rfl) ?_
                simp only [Act.put, List.setIfInBounds_toArray, List.set_cons_zero, List.set_cons_succ]
                refine wpAny_skip 20 (some 71) rfl rfl (by kernel_rfl) (by kernel_rfl) (by kernel_rfl) (fun _ _ _ h => h) (by kernel_rfl) ?_
                simp only [Act.put, List.setIfInBounds_toArray, List.set_cons_zero, List.set_cons_succ]
                refine wpAny_skip 21 (some 72) rfl rfl (by kernel_rfl) (by kernel_rfl) (by kernel_rfl) (fun _ _ _ h => h) (by kernel_rfl) ?_
                simp only [Act.put, List.setIfInBounds_toArray, List.set_cons_zero, List.set_cons_succ]
                refine wpAny_skip 22 (some 73) rfl rfl (by kernel_rfl) (by kernel_rfl) (by kernel_rfl) (fun _ _ _ h => h) (by kernel_rfl) ?_
                simp only [Act.put, List.setIfInBounds_toArray, List.set_cons_zero, List.set_cons_succ]
                refine wpAny_skip 23 (some 74) rfl rfl (by kernel_rfl) (by kernel_rfl) (by kernel_rfl) (fun _ _ _ h => h) (by kernel_rfl) ?_
                simp only [Act.put, List.setIfInBounds_toArray, List.set_cons_zero, List.set_cons_succ]
                refine wpAny_skip 24 (some 75) rfl rfl (by kernel_rfl) (by kernel_rfl) (by kernel_rfl) (fun _ _ _ h => h) (by kernel_rfl) ?_
                simp only [Act.put, List.setIfInBounds_toArray, List.set_cons_zero, List.set_cons_succ]
                refine wpAny_skip 25 (some 76) rfl rfl (by kernel_rfl) (by kernel_rfl) (by kernel_rfl) (fun _ _ _ h => h) (by kernel_rfl) ?_
                simp only [Act.put, List.setIfInBounds_toArray, List.set_cons_zero, List.set_cons_succ]
                refine wpAny_skip 26 (some 77) rfl rfl (by kernel_rfl) (by kernel_rfl) (by kernel_rfl) (fun _ _ _ h => h) (by kernel_rfl) ?_
                simp only [Act.put, List.setIfInBounds_toArray, List.set_cons_zero, List.set_cons_succ]
                refine wpAny_at (i := 27) (v := .bool false) (some 78) rfl rfl (by kernel_rfl) (by kernel_rfl) (by kernel_rfl) (fun _ _ _ h => h) (by kernel_rfl) (fun _ => ex_pick _ _ _ false (undef) (.bool false) rfl (by kernel_rfl) (by kernel_rfl) (by kernel_rfl)) ?_
                simp only [Act.put, List.setIfInBounds_toArray, List.set_cons_zero, List.set_cons_succ]
                refine wpAny_done (by kernel_rfl) ?_ _
                have HRE : Hid (w4.drew.rowIs N 4 (s.size + 1) (fun j => .bool (if j < 0 + 1 then advF x s g j else false))) := HR1.out.congr fun j hj => by
                  by_cases h : j = 0
                  · rw [if_pos h, if_pos (by omega), h, HVE.out]
                  · rw [if_neg h, if_neg (by omega), if_neg (by omega)]
                go_wp2_with fail
                go_roundg (s.size + 1 - (0 + 1))
                case measure => omega
                case rel => exact ⟨0 + 1, by omega, by go_num, HRE.out, HG1.out.drew, HA1.out, HB1.out.drew, Nat.le_refl _⟩
              · have hms : m < s.size := by omega
                have hmsi : (m : Int) < (s.size : Int) := by omega
                have hm0 : (0 : Int) ≤ (m : Int) := by omega
                have hc1 : ((m + 1 : Nat) : Int) = (m : Int) + 1 := by omega
                rw [hc1]
                have HLD := Lib.hid (run_loadAt_mid (P := Tryd.prog) w4.drew q 0 26 (atC x) _ (at_range HA1.out) hu rfl (by rw [hi, atC_len]))
                have HGT : Hid (∀ w, (do eqGuard .gtr 3 (.tmp 51) (.const (.int .i64 0)) (.int .i64 ((m : Int) + 1)) (.int .i64 0); Go.binOp .gtr 3 (.int .i64 ((m : Int) + 1)) (.int .i64 0) : Sem Value).run Tryd.prog w = .ok (.bool true) w) := by
                  have h1 : (0 : Int) < (m : Int) + 1 := by omega
                  show ∀ w, _ = _
                  intro w
                  go_simp
                have HSB : Hid (∀ {x y : Operand} (w : World), (do eqGuard .sub 3 x y (.int .i64 ((m : Int) + 1)) (.int .i64 1); Go.binOp .sub 3 (.int .i64 ((m : Int) + 1)) (.int .i64 1) : Sem Value).run Tryd.prog w = .ok (.int .i64 m) w) := by
                  show ∀ (x y : Operand) (w : World), _ = _
                  intro x y w
                  go_simp
                  rw [IntKind.wrap_i64]
                  omega
                have HIX : Hid (∀ w, (Instr.index 9 (.string s) (.int .i64 m)).run Tryd.prog w = .ok (.int .u8 (s[m].toNat)) w) := by
                  show ∀ w, _ = _
                  intro w
                  go_simp
                have hmi2 : (m : Int) < (s.size : Int) + 1 := by omega
                have HIB : Hid (∀ w, (Instr.indexAt 86 (.slice (some ⟨b, 0, none⟩) (s.size + 1) (s.size + 1)) (.int .i64 m)).run Tryd.prog w = .ok (.pointer (some ⟨b, m, none⟩)) w) := by
                  show ∀ w, _ = _
                  intro w
                  go_simp
                have HIN : Hid (∀ w, (Instr.indexAt 86 (.slice (some ⟨N, 0, none⟩) (s.size + 1) (s.size + 1)) (.int .i64 m)).run Tryd.prog w = .ok (.pointer (some ⟨N, m, none⟩)) w) := by
                  show ∀ w, _ = _
                  intro w
                  go_simp
                have HV : Hid (advF x s g (m + 1) = (gi || (x.p (s[m].toNat) && (g m || (x.many && advF x s g m))))) := by
                  show _ = _
                  rw [adv_own, HBI.out, bt_get s m hms]
                have HC0 := Lib.hid (fun w => contains_any x (s[m].toNat) w (UInt8.toNat_lt _))
                have HR4 : Hid (w4.drew.rowIs N 4 (s.size + 1) (fun j => .bool (if j = m + 1 then gi else if j < m + 1 then advF x s g j else false))) := HR1.out
                have HG4 : Hid (w4.drew.rowIs b 4 (s.size + 1) (fun j => .bool (g j))) := HG1.out
                have HA4 : Hid (AtIn w4.drew q x) := HA1.out
                have HB4 : Hid (Below w.heap.size w w4.drew) := HB1.out.drew
                have hq4 : q < w4.drew.heap.size := (Array.getElem?_eq_some_iff.1 HA1.out).1
                have hN5 : N < w4.drew.heap.size := hN4
                clear HR1 HG1 HA1 HB1 hN4
                cases hpx : x.p (s[m].toNat) with
                | false =>
                  rw [hpx] at HV
                  have HC := HC0
                  rw [hpx] at HC
                  have HVE : Hid (advF x s g (m + 1) = gi) := by
                    show _ = _
                    rw [HV.out]
                    exact Bool.or_false _
                  refine wp_region_at 28 #[false, false, false, false, false, false, false, false, false, false, false, false, false, false, false, false, false, false, false, false, false, false, false, false, false, false, false, false] rfl rfl (by kernel_rfl) ?_
                  refine wpAny_at (i := 0) (v := .int .i64 ((m : Int) + 1)) (some 51) rfl rfl (by kernel_rfl) (by kernel_rfl) (by kernel_rfl) (fun _ _ _ h => h) (by kernel_rfl) (fun _ => ex_move _ _ rfl (by kernel_rfl)) ?_
                  simp only [Act.put, List.setIfInBounds_toArray, List.set_cons_zero, List.set_cons_succ]
                  refine wpAny_at (i := 1) (v := .bool true) (some 52) rfl rfl (by kernel_rfl) (by kernel_rfl) (by kernel_rfl) (fun _ _ _ h => h) (by kernel_rfl) (fun _ => ex_binOp .gtr 3 _ _ _ (.int .i64 ((m : Int) + 1)) (.int .i64 0) _ rfl (by kernel_rfl) (by kernel_rfl) (HGT.out _)) ?_
                  simp only [Act.put, List.setIfInBounds_toArray, List.set_cons_zero, List.set_cons_succ]
                  refine wpAny_at (i := 2) (v := .bool true) (some 53) rfl rfl (by kernel_rfl) (by kernel_rfl) (by kernel_rfl) (fun _ _ _ h => h) (by kernel_rfl) (fun _ => ex_move _ _ rfl (by kernel_rfl)) ?_
                  simp only [Act.put, List.setIfInBounds_toArray, List.set_cons_zero, List.set_cons_succ]
                  refine wpAny_at (i := 4) (v := .string s) (some 55) rfl rfl (by kernel_rfl) (by kernel_rfl) (by kernel_rfl) (fun _ _ _ h => h) (by kernel_rfl) (fun _ => ex_move _ _ rfl (by kernel_rfl)) ?_
                  simp only [Act.put, List.setIfInBounds_toArray, List.set_cons_zero, List.set_cons_succ]
                  refine wpAny_at (i := 5) (v := .int .i64 ((m : Int) + 1)) (some 56) rfl rfl (by kernel_rfl) (by kernel_rfl) (by kernel_rfl) (fun _ _ _ h => h) (by kernel_rfl) (fun _ => ex_move _ _ rfl (by kernel_rfl)) ?_
                  simp only [Act.put, List.setIfInBounds_toArray, List.set_cons_zero, List.set_cons_succ]
                  refine wpAny_at (i := 6) (v := .int .i64 m) (some 57) rfl rfl (by kernel_rfl) (by kernel_rfl) (by kernel_rfl) (fun _ _ _ h => h) (by kernel_rfl) (fun _ => ex_binOp .sub 3 _ _ _ (.int .i64 ((m : Int) + 1)) (.int .i64 1) _ rfl (by kernel_rfl) (by kernel_rfl) (HSB.out _)) ?_
                  simp only [Act.put, List.setIfInBounds_toArray, List.set_cons_zero, List.set_cons_succ]
                  refine wpAny_at (i := 7) (v := .int .u8 (s[m].toNat)) (some 58) rfl rfl (by kernel_rfl) (by kernel_rfl) (by kernel_rfl) (fun _ _ _ h => h) (by kernel_rfl) (fun _ => ex_index 9 _ _ (.string s) (.int .i64 m) _ rfl (by kernel_rfl) (by kernel_rfl) (HIX.out _)) ?_
                  simp only [Act.put, List.setIfInBounds_toArray, List.set_cons_zero, List.set_cons_succ]
                  refine wpAny_val 3 (some 54) (.agg (atC x).toArray) (by kernel_rfl) rfl rfl (by kernel_rfl) (ex_load 26 _ (.pointer (some ⟨q, 0, none⟩)) _ rfl (by kernel_rfl) (HLD.out)) ?_
                  simp only [Act.put, List.setIfInBounds_toArray, List.set_cons_zero, List.set_cons_succ]
                  refine wpAny_call 8 (some 59) (by kernel_rfl) rfl rfl (by kernel_rfl) 82 (#[.agg (atC x).toArray, .int .u8 (s[m].toNat)]) (by go_simp) (HC.out _) ?_
                  rintro e w7 ⟨rfl, hb7⟩
                  refine ⟨_, rfl, ?_⟩
                  have qa := (HG4.out.of_block (hb7.block _ HG4.out.lt)).cell (i := m) (by omega)
                  have qn := (HR4.out.of_block (hb7.block _ HR4.out.lt)).cell (i := m) (by omega)
                  have qy := (HA4.out.keep (hb7.block _ hq4)).many
                  rw [if_neg (by omega), if_pos (by omega)] at qn
                  have rf7 := (HR4.out.of_block (hb7.block _ HR4.out.lt)).frozen (m + 1)
                  have r7 := (HR4.out.of_block (hb7.block _ HR4.out.lt)).cell (i := m + 1) hil
                  rw [if_pos rfl] at r7
                  change wpAny _ _ _ _ _ _ (Act.put _ (some 59) _) _
                  simp only [Act.put, List.setIfInBounds_toArray, List.set_cons_zero, List.set_cons_succ]
                  refine wpAny_at (i := 9) (v := .bool false) (some 60) rfl rfl (by kernel_rfl) (by kernel_rfl) (by kernel_rfl) (fun _ _ _ h => h) (by kernel_rfl) (fun _ => ex_pick _ _ _ true (.bool false) (.bool false) rfl (by kernel_rfl) (by kernel_rfl) (by kernel_rfl)) ?_
                  simp only [Act.put, List.setIfInBounds_toArray, List.set_cons_zero, List.set_cons_succ]
                  refine wpAny_at (i := 10) (v := .bool false) (some 61) rfl rfl (by kernel_rfl) (by kernel_rfl) (by kernel_rfl) (fun _ _ _ h => h) (by kernel_rfl) (fun _ => ex_move _ _ rfl (by kernel_rfl)) ?_
                  simp only [Act.put, List.setIfInBounds_toArray, List.set_cons_zero, List.set_cons_succ]
                  refine wpAny_skip 11 (some 62) rfl rfl (by kernel_rfl) (by kernel_rfl) (by kernel_rfl) (fun _ _ _ h => h) (by kernel_rfl) ?_
                  simp only [Act.put, List.setIfInBounds_toArray, List.set_cons_zero, List.set_cons_succ]
                  refine wpAny_skip 12 (some 63) rfl rfl (by kernel_rfl) (by kernel_rfl) (by kernel_rfl) (fun _ _ _ h => h) (by kernel_rfl) ?_
                  simp only [Act.put, List.setIfInBounds_toArray, List.set_cons_zero, List.set_cons_succ]
                  refine wpAny_skip 13 (some 64) rfl rfl (by kernel_rfl) (by kernel_rfl) (by kernel_rfl) (fun _ _ _ h => h) (by kernel_rfl) ?_
                  simp only [Act.put, List.setIfInBounds_toArray, List.set_cons_zero, List.set_cons_succ]
                  refine wpAny_skip 14 (some 65) rfl rfl (by kernel_rfl) (by kernel_rfl) (by kernel_rfl) (fun _ _ _ h => h) (by kernel_rfl) ?_
                  simp only [Act.put, List.setIfInBounds_toArray, List.set_cons_zero, List.set_cons_succ]
                  refine wpAny_skip 15 (some 66) rfl rfl (by kernel_rfl) (by kernel_rfl) (by kernel_rfl) (fun _ _ _ h => h) (by kernel_rfl) ?_
                  simp only [Act.put, List.setIfInBounds_toArray, List.set_cons_zero, List.set_cons_succ]
                  refine wpAny_skip 16 (some 67) rfl rfl (by kernel_rfl) (by kernel_rfl) (by kernel_rfl) (fun _ _ _ h => h) (by kernel_rfl) ?_
                  simp only [Act.put, List.setIfInBounds_toArray, List.set_cons_zero, List.set_cons_succ]
                  refine wpAny_skip 17 (some 68) rfl rfl (by kernel_rfl) (by kernel_rfl) (by kernel_rfl) (fun _ _ _ h => h) (by kernel_rfl) ?_
                  simp only [Act.put, List.setIfInBounds_toArray, List.set_cons_zero, List.set_cons_succ]
                  refine wpAny_skip 18 (some 69) rfl rfl (by kernel_rfl) (by kernel_rfl) (by kernel_rfl) (fun _ _ _ h => h) (by kernel_rfl) ?_
                  simp only [Act.put, List.setIfInBounds_toArray, List.set_cons_zero, List.set_cons_succ]
                  refine wpAny_skip 19 (some 70) rfl rfl (by kernel_rfl) (by kernel_rfl) (by kernel_rfl) (fun _ _ _ h => h) (by kernel_rfl) ?_
                  simp only [Act.put, List.setIfInBounds_toArray, List.set_cons_zero, List.set_cons_succ]
                  refine wpAny_skip 20 (some 71) rfl rfl (by kernel_rfl) (by kernel_rfl) (by kernel_rfl) (fun _ _ _ h => h) (by kernel_rfl) ?_
                  simp only [Act.put, List.setIfInBounds_toArray, List.set_cons_zero, List.set_cons_succ]
                  refine wpAny_skip 21 (some 72) rfl rfl (by kernel_rfl) (by kernel_rfl) (by kernel_rfl) (fun _ _ _ h => h) (by kernel_rfl) ?_
                  simp only [Act.put, List.setIfInBounds_toArray, List.set_cons_zero, List.set_cons_succ]
                  refine wpAny_skip 22 (some 73) rfl rfl (by kernel_rfl) (by kernel_rfl) (by kernel_rfl) (fun _ _ _ h => h) (by kernel_rfl) ?_
                  simp only [Act.put, List.setIfInBounds_toArray, List.set_cons_zero, List.set_cons_succ]
                  refine wpAny_skip 23 (some 74) rfl rfl (by kernel_rfl) (by kernel_rfl) (by kernel_rfl) (fun _ _ _ h => h) (by kernel_rfl) ?_
                  simp only [Act.put, List.setIfInBounds_toArray, List.set_cons_zero, List.set_cons_succ]
                  refine wpAny_skip 24 (some 75) rfl rfl (by kernel_rfl) (by kernel_rfl) (by kernel_rfl) (fun _ _ _ h => h) (by kernel_rfl) ?_
                  simp only [Act.put, List.setIfInBounds_toArray, List.set_cons_zero, List.set_cons_succ]
                  refine wpAny_skip 25 (some 76) rfl rfl (by kernel_rfl) (by kernel_rfl) (by kernel_rfl) (fun _ _ _ h => h) (by kernel_rfl) ?_
                  simp only [Act.put, List.setIfInBounds_toArray, List.set_cons_zero, List.set_cons_succ]
                  refine wpAny_skip 26 (some 77) rfl rfl (by kernel_rfl) (by kernel_rfl) (by kernel_rfl) (fun _ _ _ h => h) (by kernel_rfl) ?_
                  simp only [Act.put, List.setIfInBounds_toArray, List.set_cons_zero, List.set_cons_succ]
                  refine wpAny_at (i := 27) (v := .bool false) (some 78) rfl rfl (by kernel_rfl) (by kernel_rfl) (by kernel_rfl) (fun _ _ _ h => h) (by kernel_rfl) (fun _ => ex_pick _ _ _ false (undef) (.bool false) rfl (by kernel_rfl) (by kernel_rfl) (by kernel_rfl)) ?_
                  simp only [Act.put, List.setIfInBounds_toArray, List.set_cons_zero, List.set_cons_succ]
                  refine wpAny_done (by kernel_rfl) ?_ _
                  go_wp2_with fail
                  have HR7 := Lib.hid (HR4.out.of_block (hb7.block _ HR4.out.lt))
                  have HG7 := Lib.hid (HG4.out.of_block (hb7.block _ HG4.out.lt))
                  have HA7 := Lib.hid (HA4.out.keep (hb7.block _ hq4))
                  have HB7 := Lib.hid (HB4.out.trans (hb7.mono HB4.out.size))
                  have HRE : Hid (w7.rowIs N 4 (s.size + 1) (fun j => .bool (if j < m + 1 + 1 then advF x s g j else false))) := HR7.out.congr fun j hj => by
                    by_cases h : j = m + 1
                    · rw [if_pos h, if_pos (by omega), h, HVE.out]
                    · rw [if_neg h]
                      by_cases h2 : j < m + 1
                      · rw [if_pos h2, if_pos (by omega)]
                      · rw [if_neg h2, if_neg (by omega)]
                  go_roundg (s.size + 1 - (m + 1 + 1))
                  case measure => omega
                  case rel => exact ⟨m + 1 + 1, by omega, by go_num, HRE.out, HG7.out, HA7.out, HB7.out, Nat.le_refl _⟩
                | true =>
                  rw [hpx] at HV
                  have HC := HC0
                  rw [hpx] at HC
                  cases hfi : g m with
                  | true =>
                    rw [hfi] at HV
                    have HVE : Hid (advF x s g (m + 1) = true) := by
                      show _ = _
                      rw [HV.out]
                      exact Bool.or_true _
                    refine wp_region_at 28 #[false, false, false, false, false, false, false, false, false, false, false, false, false, false, false, false, false, false, false, false, false, false, false, false, false, false, false, false] rfl rfl (by kernel_rfl) ?_
                    refine wpAny_at (i := 0) (v := .int .i64 ((m : Int) + 1)) (some 51) rfl rfl (by kernel_rfl) (by kernel_rfl) (by kernel_rfl) (fun _ _ _ h => h) (by kernel_rfl) (fun _ => ex_move _ _ rfl (by kernel_rfl)) ?_
                    simp only [Act.put, List.setIfInBounds_toArray, List.set_cons_zero, List.set_cons_succ]
                    refine wpAny_at (i := 1) (v := .bool true) (some 52) rfl rfl (by kernel_rfl) (by kernel_rfl) (by kernel_rfl) (fun _ _ _ h => h) (by kernel_rfl) (fun _ => ex_binOp .gtr 3 _ _ _ (.int .i64 ((m : Int) + 1)) (.int .i64 0) _ rfl (by kernel_rfl) (by kernel_rfl) (HGT.out _)) ?_
                    simp only [Act.put, List.setIfInBounds_toArray, List.set_cons_zero, List.set_cons_succ]
                    refine wpAny_at (i := 2) (v := .bool true) (some 53) rfl rfl (by kernel_rfl) (by kernel_rfl) (by kernel_rfl) (fun _ _ _ h => h) (by kernel_rfl) (fun _ => ex_move _ _ rfl (by kernel_rfl)) ?_
                    simp only [Act.put, List.setIfInBounds_toArray, List.set_cons_zero, List.set_cons_succ]
                    refine wpAny_at (i := 4) (v := .string s) (some 55) rfl rfl (by kernel_rfl) (by kernel_rfl) (by kernel_rfl) (fun _ _ _ h => h) (by kernel_rfl) (fun _ => ex_move _ _ rfl (by kernel_rfl)) ?_
                    simp only [Act.put, List.setIfInBounds_toArray, List.set_cons_zero, List.set_cons_succ]
                    refine wpAny_at (i := 5) (v := .int .i64 ((m : Int) + 1)) (some 56) rfl rfl (by kernel_rfl) (by kernel_rfl) (by kernel_rfl) (fun _ _ _ h => h) (by kernel_rfl) (fun _ => ex_move _ _ rfl (by kernel_rfl)) ?_
                    simp only [Act.put, List.setIfInBounds_toArray, List.set_cons_zero, List.set_cons_succ]
                    refine wpAny_at (i := 6) (v := .int .i64 m) (some 57) rfl rfl (by kernel_rfl) (by kernel_rfl) (by kernel_rfl) (fun _ _ _ h => h) (by kernel_rfl) (fun _ => ex_binOp .sub 3 _ _ _ (.int .i64 ((m : Int) + 1)) (.int .i64 1) _ rfl (by kernel_rfl) (by kernel_rfl) (HSB.out _)) ?_
                    simp only [Act.put, List.setIfInBounds_toArray, List.set_cons_zero, List.set_cons_succ]
                    refine wpAny_at (i := 7) (v := .int .u8 (s[m].toNat)) (some 58) rfl rfl (by kernel_rfl) (by kernel_rfl) (by kernel_rfl) (fun _ _ _ h => h) (by kernel_rfl) (fun _ => ex_index 9 _ _ (.string s) (.int .i64 m) _ rfl (by kernel_rfl) (by kernel_rfl) (HIX.out _)) ?_
                    simp only [Act.put, List.setIfInBounds_toArray, List.set_cons_zero, List.set_cons_succ]
                    refine wpAny_val 3 (some 54) (.agg (atC x).toArray) (by kernel_rfl) rfl rfl (by kernel_rfl) (ex_load 26 _ (.pointer (some ⟨q, 0, none⟩)) _ rfl (by kernel_rfl) (HLD.out)) ?_
                    simp only [Act.put, List.setIfInBounds_toArray, List.set_cons_zero, List.set_cons_succ]
                    refine wpAny_call 8 (some 59) (by kernel_rfl) rfl rfl (by kernel_rfl) 82 (#[.agg (atC x).toArray, .int .u8 (s[m].toNat)]) (by go_simp) (HC.out _) ?_
                    rintro e w7 ⟨rfl, hb7⟩
                    refine ⟨_, rfl, ?_⟩
                    have qa := (HG4.out.of_block (hb7.block _ HG4.out.lt)).cell (i := m) (by omega)
                    have qn := (HR4.out.of_block (hb7.block _ HR4.out.lt)).cell (i := m) (by omega)
                    have qy := (HA4.out.keep (hb7.block _ hq4)).many
                    rw [if_neg (by omega), if_pos (by omega)] at qn
                    rw [hfi] at qa
                    have rf7 := (HR4.out.of_block (hb7.block _ HR4.out.lt)).frozen (m + 1)
                    have r7 := (HR4.out.of_block (hb7.block _ HR4.out.lt)).cell (i := m + 1) hil
                    rw [if_pos rfl] at r7
                    change wpAny _ _ _ _ _ _ (Act.put _ (some 59) _) _
                    simp only [Act.put, List.setIfInBounds_toArray, List.set_cons_zero, List.set_cons_succ]
                    refine wpAny_at (i := 9) (v := .bool true) (some 60) rfl rfl (by kernel_rfl) (by kernel_rfl) (by kernel_rfl) (fun _ _ _ h => h) (by kernel_rfl) (fun _ => ex_pick _ _ _ true (.bool true) (.bool false) rfl (by kernel_rfl) (by kernel_rfl) (by kernel_rfl)) ?_
                    simp only [Act.put, List.setIfInBounds_toArray, List.set_cons_zero, List.set_cons_succ]
                    refine wpAny_at (i := 10) (v := .bool true) (some 61) rfl rfl (by kernel_rfl) (by kernel_rfl) (by kernel_rfl) (fun _ _ _ h => h) (by kernel_rfl) (fun _ => ex_move _ _ rfl (by kernel_rfl)) ?_
                    simp only [Act.put, List.setIfInBounds_toArray, List.set_cons_zero, List.set_cons_succ]
                    refine wpAny_at (i := 11) (v := .slice (some ⟨b, 0, none⟩) (s.size + 1) (s.size + 1)) (some 62) rfl rfl (by kernel_rfl) (by kernel_rfl) (by kernel_rfl) (fun _ _ _ h => h) (by kernel_rfl) (fun _ => ex_move _ _ rfl (by kernel_rfl)) ?_
                    simp only [Act.put, List.setIfInBounds_toArray, List.set_cons_zero, List.set_cons_succ]
                    refine wpAny_at (i := 12) (v := .int .i64 ((m : Int) + 1)) (some 63) rfl rfl (by kernel_rfl) (by kernel_rfl) (by kernel_rfl) (fun _ _ _ h => h) (by kernel_rfl) (fun _ => ex_move _ _ rfl (by kernel_rfl)) ?_
                    simp only [Act.put, List.setIfInBounds_toArray, List.set_cons_zero, List.set_cons_succ]
                    refine wpAny_at (i := 13) (v := .int .i64 m) (some 64) rfl rfl (by kernel_rfl) (by kernel_rfl) (by kernel_rfl) (fun _ _ _ h => h) (by kernel_rfl) (fun _ => ex_binOp .sub 3 _ _ _ (.int .i64 ((m : Int) + 1)) (.int .i64 1) _ rfl (by kernel_rfl) (by kernel_rfl) (HSB.out _)) ?_
                    simp only [Act.put, List.setIfInBounds_toArray, List.set_cons_zero, List.set_cons_succ]
                    refine wpAny_at (i := 14) (v := .pointer (some ⟨b, m, none⟩)) (some 65) rfl rfl (by kernel_rfl) (by kernel_rfl) (by kernel_rfl) (fun _ _ _ h => h) (by kernel_rfl) (fun _ => ex_indexAddr 86 _ _ (.slice (some ⟨b, 0, none⟩) (s.size + 1) (s.size + 1)) (.int .i64 m) _ rfl (by kernel_rfl) (by kernel_rfl) (HIB.out _)) ?_
                    simp only [Act.put, List.setIfInBounds_toArray, List.set_cons_zero, List.set_cons_succ]
                    refine wpAny_val 15 (some 66) (.bool true) (by kernel_rfl) rfl rfl (by kernel_rfl) (ex_load 4 _ (.pointer (some ⟨b, m, none⟩)) _ rfl (by kernel_rfl) (by go_simp)) ?_
                    simp only [Act.put, List.setIfInBounds_toArray, List.set_cons_zero, List.set_cons_succ]
                    refine wpAny_at (i := 16) (v := .bool true) (some 67) rfl rfl (by kernel_rfl) (by kernel_rfl) (by kernel_rfl) (fun _ _ _ h => h) (by kernel_rfl) (fun _ => ex_move _ _ rfl (by kernel_rfl)) ?_
                    simp only [Act.put, List.setIfInBounds_toArray, List.set_cons_zero, List.set_cons_succ]
                    refine wpAny_skip 17 (some 68) rfl rfl (by kernel_rfl) (by kernel_rfl) (by kernel_rfl) (fun _ _ _ h => h) (by kernel_rfl) ?_
                    simp only [Act.put, List.setIfInBounds_toArray, List.set_cons_zero, List.set_cons_succ]
                    refine wpAny_skip 18 (some 69) rfl rfl (by kernel_rfl) (by kernel_rfl) (by kernel_rfl) (fun _ _ _ h => h) (by kernel_rfl) ?_
                    simp only [Act.put, List.setIfInBounds_toArray, List.set_cons_zero, List.set_cons_succ]
                    refine wpAny_skip 19 (some 70) rfl rfl (by kernel_rfl) (by kernel_rfl) (by kernel_rfl) (fun _ _ _ h => h) (by kernel_rfl) ?_
                    simp only [Act.put, List.setIfInBounds_toArray, List.set_cons_zero, List.set_cons_succ]
                    refine wpAny_skip 20 (some 71) rfl rfl (by kernel_rfl) (by kernel_rfl) (by kernel_rfl) (fun _ _ _ h => h) (by kernel_rfl) ?_
                    simp only [Act.put, List.setIfInBounds_toArray, List.set_cons_zero, List.set_cons_succ]
                    refine wpAny_skip 21 (some 72) rfl rfl (by kernel_rfl) (by kernel_rfl) (by kernel_rfl) (fun _ _ _ h => h) (by kernel_rfl) ?_
                    simp only [Act.put, List.setIfInBounds_toArray, List.set_cons_zero, List.set_cons_succ]
                    refine wpAny_skip 22 (some 73) rfl rfl (by kernel_rfl) (by kernel_rfl) (by kernel_rfl) (fun _ _ _ h => h) (by kernel_rfl) ?_
                    simp only [Act.put, List.setIfInBounds_toArray, List.set_cons_zero, List.set_cons_succ]
                    refine wpAny_skip 23 (some 74) rfl rfl (by kernel_rfl) (by kernel_rfl) (by kernel_rfl) (fun _ _ _ h => h) (by kernel_rfl) ?_
                    simp only [Act.put, List.setIfInBounds_toArray, List.set_cons_zero, List.set_cons_succ]
                    refine wpAny_skip 24 (some 75) rfl rfl (by kernel_rfl) (by kernel_rfl) (by kernel_rfl) (fun _ _ _ h => h) (by kernel_rfl) ?_
                    simp only [Act.put, List.setIfInBounds_toArray, List.set_cons_zero, List.set_cons_succ]
                    refine wpAny_skip 25 (some 76) rfl rfl (by kernel_rfl) (by kernel_rfl) (by kernel_rfl) (fun _ _ _ h => h) (by kernel_rfl) ?_
                    simp only [Act.put, List.setIfInBounds_toArray, List.set_cons_zero, List.set_cons_succ]
                    refine wpAny_at (i := 26) (v := .bool true) (some 77) rfl rfl (by kernel_rfl) (by kernel_rfl) (by kernel_rfl) (fun _ _ _ h => h) (by kernel_rfl) (fun _ => ex_pick _ _ _ true (.bool true) (undef) rfl (by kernel_rfl) (by kernel_rfl) (by kernel_rfl)) ?_
                    simp only [Act.put, List.setIfInBounds_toArray, List.set_cons_zero, List.set_cons_succ]
                    refine wpAny_at (i := 27) (v := .bool true) (some 78) rfl rfl (by kernel_rfl) (by kernel_rfl) (by kernel_rfl) (fun _ _ _ h => h) (by kernel_rfl) (fun _ => ex_pick _ _ _ true (.bool true) (.bool false) rfl (by kernel_rfl) (by kernel_rfl) (by kernel_rfl)) ?_
                    simp only [Act.put, List.setIfInBounds_toArray, List.set_cons_zero, List.set_cons_succ]
                    refine wpAny_done (by kernel_rfl) ?_ _
                    go_wp2_with fail
                    have HR7 := Lib.hid (HR4.out.of_block (hb7.block _ HR4.out.lt))
                    have HG7 := Lib.hid (HG4.out.of_block (hb7.block _ HG4.out.lt))
                    have HA7 := Lib.hid (HA4.out.keep (hb7.block _ hq4))
                    have HB7 := Lib.hid (HB4.out.trans (hb7.mono HB4.out.size))
                    have HRE : Hid ((w7.setCell ⟨N, m + 1, none⟩ (.bool true)).rowIs N 4 (s.size + 1) (fun j => .bool (if j < m + 1 + 1 then advF x s g j else false))) := (HR7.out.set (m + 1) (.bool true)).congr fun j hj => by
                      by_cases h : j = m + 1
                      · rw [if_pos h, if_pos (by omega), h, HVE.out]
                      · rw [if_neg h, if_neg h]
                        by_cases h2 : j < m + 1
                        · rw [if_pos h2, if_pos (by omega)]
                        · rw [if_neg h2, if_neg (by omega)]
                    go_roundg (s.size + 1 - (m + 1 + 1))
                    case measure => omega
                    case rel => exact ⟨m + 1 + 1, by omega, by go_num, HRE.out, HG7.out.of_block (Below.heap_setCell _ _ _ _ (show b ≠ N by omega)), HA7.out.keep (Below.heap_setCell _ _ _ _ (show q ≠ N by omega)), HB7.out.setCell (p := ⟨N, m + 1, none⟩) (show w.heap.size ≤ N by omega) _, Nat.le_refl _⟩
                  | false =>
                    rw [hfi] at HV
                    cases hmm : x.many with
                    | false =>
                      rw [hmm] at HV
                      have HVE : Hid (advF x s g (m + 1) = gi) := by
                        show _ = _
                        rw [HV.out]
                        exact Bool.or_false _
                      refine wp_region_at 28 #[false, false, false, false, false, false, false, false, false, false, false, false, false, false, false, false, false, false, false, false, false, false, false, false, false, false, false, false] rfl rfl (by kernel_rfl) ?_
                      refine wpAny_at (i := 0) (v := .int .i64 ((m : Int) + 1)) (some 51) rfl rfl (by kernel_rfl) (by kernel_rfl) (by kernel_rfl) (fun _ _ _ h => h) (by kernel_rfl) (fun _ => ex_move _ _ rfl (by kernel_rfl)) ?_
                      simp only [Act.put, List.setIfInBounds_toArray, List.set_cons_zero, List.set_cons_succ]
                      refine wpAny_at (i := 1) (v := .bool true) (some 52) rfl rfl (by kernel_rfl) (by kernel_rfl) (by kernel_rfl) (fun _ _ _ h => h) (by kernel_rfl) (fun _ => ex_binOp .gtr 3 _ _ _ (.int .i64 ((m : Int) + 1)) (.int .i64 0) _ rfl (by kernel_rfl) (by kernel_rfl) (HGT.out _)) ?_
                      simp only [Act.put, List.setIfInBounds_toArray, List.set_cons_zero, List.set_cons_succ]
                      refine wpAny_at (i := 2) (v := .bool true) (some 53) rfl rfl (by kernel_rfl) (by kernel_rfl) (by kernel_rfl) (fun _ _ _ h => h) (by kernel_rfl) (fun _ => ex_move _ _ rfl (by kernel_rfl)) ?_
                      simp only [Act.put, List.setIfInBounds_toArray, List.set_cons_zero, List.set_cons_succ]
                      refine wpAny_at (i := 4) (v := .string s) (some 55) rfl rfl (by kernel_rfl) (by kernel_rfl) (by kernel_rfl) (fun _ _ _ h => h) (by kernel_rfl) (fun _ => ex_move _ _ rfl (by kernel_rfl)) ?_
                      simp only [Act.put, List.setIfInBounds_toArray, List.set_cons_zero, List.set_cons_succ]
                      refine wpAny_at (i := 5) (v := .int .i64 ((m : Int) + 1)) (some 56) rfl rfl (by kernel_rfl) (by kernel_rfl) (by kernel_rfl) (fun _ _ _ h => h) (by kernel_rfl) (fun _ => ex_move _ _ rfl (by kernel_rfl)) ?_
                      simp only [Act.put, List.setIfInBounds_toArray, List.set_cons_zero, List.set_cons_succ]
                      refine wpAny_at (i := 6) (v := .int .i64 m) (some 57) rfl rfl (by kernel_rfl) (by kernel_rfl) (by kernel_rfl) (fun _ _ _ h => h) (by kernel_rfl) (fun _ => ex_binOp .sub 3 _ _ _ (.int .i64 ((m : Int) + 1)) (.int .i64 1) _ rfl (by kernel_rfl) (by kernel_rfl) (HSB.out _)) ?_
                      simp only [Act.put, List.setIfInBounds_toArray, List.set_cons_zero, List.set_cons_succ]
                      refine wpAny_at (i := 7) (v := .int .u8 (s[m].toNat)) (some 58) rfl rfl (by kernel_rfl) (by kernel_rfl) (by kernel_rfl) (fun _ _ _ h => h) (by kernel_rfl) (fun _ => ex_index 9 _ _ (.string s) (.int .i64 m) _ rfl (by kernel_rfl) (by kernel_rfl) (HIX.out _)) ?_
                      simp only [Act.put, List.setIfInBounds_toArray, List.set_cons_zero, List.set_cons_succ]
                      refine wpAny_val 3 (some 54) (.agg (atC x).toArray) (by kernel_rfl) rfl rfl (by kernel_rfl) (ex_load 26 _ (.pointer (some ⟨q, 0, none⟩)) _ rfl (by kernel_rfl) (HLD.out)) ?_
                      simp only [Act.put, List.setIfInBounds_toArray, List.set_cons_zero, List.set_cons_succ]
                      refine wpAny_call 8 (some 59) (by kernel_rfl) rfl rfl (by kernel_rfl) 82 (#[.agg (atC x).toArray, .int .u8 (s[m].toNat)]) (by go_simp) (HC.out _) ?_
                      rintro e w7 ⟨rfl, hb7⟩
                      refine ⟨_, rfl, ?_⟩
                      have qa := (HG4.out.of_block (hb7.block _ HG4.out.lt)).cell (i := m) (by omega)
                      have qn := (HR4.out.of_block (hb7.block _ HR4.out.lt)).cell (i := m) (by omega)
                      have qy := (HA4.out.keep (hb7.block _ hq4)).many
                      rw [if_neg (by omega), if_pos (by omega)] at qn
                      rw [hfi] at qa
                      rw [hmm] at qy
                      have rf7 := (HR4.out.of_block (hb7.block _ HR4.out.lt)).frozen (m + 1)
                      have r7 := (HR4.out.of_block (hb7.block _ HR4.out.lt)).cell (i := m + 1) hil
                      rw [if_pos rfl] at r7
                      change wpAny _ _ _ _ _ _ (Act.put _ (some 59) _) _
                      simp only [Act.put, List.setIfInBounds_toArray, List.set_cons_zero, List.set_cons_succ]
                      refine wpAny_at (i := 9) (v := .bool true) (some 60) rfl rfl (by kernel_rfl) (by kernel_rfl) (by kernel_rfl) (fun _ _ _ h => h) (by kernel_rfl) (fun _ => ex_pick _ _ _ true (.bool true) (.bool false) rfl (by kernel_rfl) (by kernel_rfl) (by kernel_rfl)) ?_
                      simp only [Act.put, List.setIfInBounds_toArray, List.set_cons_zero, List.set_cons_succ]
                      refine wpAny_at (i := 10) (v := .bool true) (some 61) rfl rfl (by kernel_rfl) (by kernel_rfl) (by kernel_rfl) (fun _ _ _ h => h) (by kernel_rfl) (fun _ => ex_move _ _ rfl (by kernel_rfl)) ?_
                      simp only [Act.put, List.setIfInBounds_toArray, List.set_cons_zero, List.set_cons_succ]
                      refine wpAny_at (i := 11) (v := .slice (some ⟨b, 0, none⟩) (s.size + 1) (s.size + 1)) (some 62) rfl rfl (by kernel_rfl) (by kernel_rfl) (by kernel_rfl) (fun _ _ _ h => h) (by kernel_rfl) (fun _ => ex_move _ _ rfl (by kernel_rfl)) ?_
                      simp only [Act.put, List.setIfInBounds_toArray, List.set_cons_zero, List.set_cons_succ]
                      refine wpAny_at (i := 12) (v := .int .i64 ((m : Int) + 1)) (some 63) rfl rfl (by kernel_rfl) (by kernel_rfl) (by kernel_rfl) (fun _ _ _ h => h) (by kernel_rfl) (fun _ => ex_move _ _ rfl (by kernel_rfl)) ?_
                      simp only [Act.put, List.setIfInBounds_toArray, List.set_cons_zero, List.set_cons_succ]
                      refine wpAny_at (i := 13) (v := .int .i64 m) (some 64) rfl rfl (by kernel_rfl) (by kernel_rfl) (by kernel_rfl) (fun _ _ _ h => h) (by kernel_rfl) (fun _ => ex_binOp .sub 3 _ _ _ (.int .i64 ((m : Int) + 1)) (.int .i64 1) _ rfl (by kernel_rfl) (by kernel_rfl) (HSB.out _)) ?_
                      simp only [Act.put, List.setIfInBounds_toArray, List.set_cons_zero, List.set_cons_succ]
                      refine wpAny_at (i := 14) (v := .pointer (some ⟨b, m, none⟩)) (some 65) rfl rfl (by kernel_rfl) (by kernel_rfl) (by kernel_rfl) (fun _ _ _ h => h) (by kernel_rfl) (fun _ => ex_indexAddr 86 _ _ (.slice (some ⟨b, 0, none⟩) (s.size + 1) (s.size + 1)) (.int .i64 m) _ rfl (by kernel_rfl) (by kernel_rfl) (HIB.out _)) ?_
                      simp only [Act.put, List.setIfInBounds_toArray, List.set_cons_zero, List.set_cons_succ]
                      refine wpAny_val 15 (some 66) (.bool false) (by kernel_rfl) rfl rfl (by kernel_rfl) (ex_load 4 _ (.pointer (some ⟨b, m, none⟩)) _ rfl (by kernel_rfl) (by go_simp)) ?_
                      simp only [Act.put, List.setIfInBounds_toArray, List.set_cons_zero, List.set_cons_succ]
                      refine wpAny_at (i := 16) (v := .bool false) (some 67) rfl rfl (by kernel_rfl) (by kernel_rfl) (by kernel_rfl) (fun _ _ _ h => h) (by kernel_rfl) (fun _ => ex_move _ _ rfl (by kernel_rfl)) ?_
                      simp only [Act.put, List.setIfInBounds_toArray, List.set_cons_zero, List.set_cons_succ]
                      refine wpAny_at (i := 17) (v := .pointer (some ⟨q, 33, none⟩)) (some 68) rfl rfl (by kernel_rfl) (by kernel_rfl) (by kernel_rfl) (fun _ _ _ h => h) (by kernel_rfl) (fun _ => ex_fieldAddr 26 _ 2 (.pointer (some ⟨q, 0, none⟩)) _ rfl (by kernel_rfl) (by go_simp)) ?_
                      simp only [Act.put, List.setIfInBounds_toArray, List.set_cons_zero, List.set_cons_succ]
                      refine wpAny_val 18 (some 69) (.bool false) (by kernel_rfl) rfl rfl (by kernel_rfl) (ex_load 4 _ (.pointer (some ⟨q, 33, none⟩)) _ rfl (by kernel_rfl) (by go_simp)) ?_
                      simp only [Act.put, List.setIfInBounds_toArray, List.set_cons_zero, List.set_cons_succ]
                      refine wpAny_at (i := 19) (v := .bool false) (some 70) rfl rfl (by kernel_rfl) (by kernel_rfl) (by kernel_rfl) (fun _ _ _ h => h) (by kernel_rfl) (fun _ => ex_move _ _ rfl (by kernel_rfl)) ?_
                      simp only [Act.put, List.setIfInBounds_toArray, List.set_cons_zero, List.set_cons_succ]
                      refine wpAny_skip 20 (some 71) rfl rfl (by kernel_rfl) (by kernel_rfl) (by kernel_rfl) (fun _ _ _ h => h) (by kernel_rfl) ?_
                      simp only [Act.put, List.setIfInBounds_toArray, List.set_cons_zero, List.set_cons_succ]
                      refine wpAny_skip 21 (some 72) rfl rfl (by kernel_rfl) (by kernel_rfl) (by kernel_rfl) (fun _ _ _ h => h) (by kernel_rfl) ?_
                      simp only [Act.put, List.setIfInBounds_toArray, List.set_cons_zero, List.set_cons_succ]
                      refine wpAny_skip 22 (some 73) rfl rfl (by kernel_rfl) (by kernel_rfl) (by kernel_rfl) (fun _ _ _ h => h) (by kernel_rfl) ?_
                      simp only [Act.put, List.setIfInBounds_toArray, List.set_cons_zero, List.set_cons_succ]
                      refine wpAny_skip 23 (some 74) rfl rfl (by kernel_rfl) (by kernel_rfl) (by kernel_rfl) (fun _ _ _ h => h) (by kernel_rfl) ?_
                      simp only [Act.put, List.setIfInBounds_toArray, List.set_cons_zero, List.set_cons_succ]
                      refine wpAny_skip 24 (some 75) rfl rfl (by kernel_rfl) (by kernel_rfl) (by kernel_rfl) (fun _ _ _ h => h) (by kernel_rfl) ?_
                      simp only [Act.put, List.setIfInBounds_toArray, List.set_cons_zero, List.set_cons_succ]
                      refine wpAny_at (i := 25) (v := .bool false) (some 76) rfl rfl (by kernel_rfl) (by kernel_rfl) (by kernel_rfl) (fun _ _ _ h => h) (by kernel_rfl) (fun _ => ex_pick _ _ _ false (undef) (.bool false) rfl (by kernel_rfl) (by kernel_rfl) (by kernel_rfl)) ?_
                      simp only [Act.put, List.setIfInBounds_toArray, List.set_cons_zero, List.set_cons_succ]
                      refine wpAny_at (i := 26) (v := .bool false) (some 77) rfl rfl (by kernel_rfl) (by kernel_rfl) (by kernel_rfl) (fun _ _ _ h => h) (by kernel_rfl) (fun _ => ex_pick _ _ _ false (.bool true) (.bool false) rfl (by kernel_rfl) (by kernel_rfl) (by kernel_rfl)) ?_
                      simp only [Act.put, List.setIfInBounds_toArray, List.set_cons_zero, List.set_cons_succ]
                      refine wpAny_at (i := 27) (v := .bool false) (some 78) rfl rfl (by kernel_rfl) (by kernel_rfl) (by kernel_rfl) (fun _ _ _ h => h) (by kernel_rfl) (fun _ => ex_pick _ _ _ true (.bool false) (.bool false) rfl (by kernel_rfl) (by kernel_rfl) (by kernel_rfl)) ?_
                      simp only [Act.put, List.setIfInBounds_toArray, List.set_cons_zero, List.set_cons_succ]
                      refine wpAny_done (by kernel_rfl) ?_ _
                      go_wp2_with fail
                      have HR7 := Lib.hid (HR4.out.of_block (hb7.block _ HR4.out.lt))
                      have HG7 := Lib.hid (HG4.out.of_block (hb7.block _ HG4.out.lt))
                      have HA7 := Lib.hid (HA4.out.keep (hb7.block _ hq4))
                      have HB7 := Lib.hid (HB4.out.trans (hb7.mono HB4.out.size))
                      have HRE : Hid (w7.rowIs N 4 (s.size + 1) (fun j => .bool (if j < m + 1 + 1 then advF x s g j else false))) := HR7.out.congr fun j hj => by
                        by_cases h : j = m + 1
                        · rw [if_pos h, if_pos (by omega), h, HVE.out]
                        · rw [if_neg h]
                          by_cases h2 : j < m + 1
                          · rw [if_pos h2, if_pos (by omega)]
                          · rw [if_neg h2, if_neg (by omega)]
                      go_roundg (s.size + 1 - (m + 1 + 1))
                      case measure => omega
                      case rel => exact ⟨m + 1 + 1, by omega, by go_num, HRE.out, HG7.out, HA7.out, HB7.out, Nat.le_refl _⟩
                    | true =>
                      rw [hmm] at HV
                      cases hni : advF x s g m with
                      | true =>
                        rw [hni] at HV
                        have HVE : Hid (advF x s g (m + 1) = true) := by
                          show _ = _
                          rw [HV.out]
                          exact Bool.or_true _
                        refine wp_region_at 28 #[false, false, false, false, false, false, false, false, false, false, false, false, false, false, false, false, false, false, false, false, false, false, false, false, false, false, false, false] rfl rfl (by kernel_rfl) ?_
                        refine wpAny_at (i := 0) (v := .int .i64 ((m : Int) + 1)) (some 51) rfl rfl (by kernel_rfl) (by kernel_rfl) (by kernel_rfl) (fun _ _ _ h => h) (by kernel_rfl) (fun _ => ex_move _ _ rfl (by kernel_rfl)) ?_
                        simp only [Act.put, List.setIfInBounds_toArray, List.set_cons_zero, List.set_cons_succ]
                        refine wpAny_at (i := 1) (v := .bool true) (some 52) rfl rfl (by kernel_rfl) (by kernel_rfl) (by kernel_rfl) (fun _ _ _ h => h) (by kernel_rfl) (fun _ => ex_binOp .gtr 3 _ _ _ (.int .i64 ((m : Int) + 1)) (.int .i64 0) _ rfl (by kernel_rfl) (by kernel_rfl) (HGT.out _)) ?_
                        simp only [Act.put, List.setIfInBounds_toArray, List.set_cons_zero, List.set_cons_succ]
                        refine wpAny_at (i := 2) (v := .bool true) (some 53) rfl rfl (by kernel_rfl) (by kernel_rfl) (by kernel_rfl) (fun _ _ _ h => h) (by kernel_rfl) (fun _ => ex_move _ _ rfl (by kernel_rfl)) ?_
                        simp only [Act.put, List.setIfInBounds_toArray, List.set_cons_zero, List.set_cons_succ]
                        refine wpAny_at (i := 4) (v := .string s) (some 55) rfl rfl (by kernel_rfl) (by kernel_rfl) (by kernel_rfl) (fun _ _ _ h => h) (by kernel_rfl) (fun _ => ex_move _ _ rfl (by kernel_rfl)) ?_
                        simp only [Act.put, List.setIfInBounds_toArray, List.set_cons_zero, List.set_cons_succ]
                        refine wpAny_at (i := 5) (v := .int .i64 ((m : Int) + 1)) (some 56) rfl rfl (by kernel_rfl) (by kernel_rfl) (by kernel_rfl) (fun _ _ _ h => h) (by kernel_rfl) (fun _ => ex_move _ _ rfl (by kernel_rfl)) ?_
                        simp only [Act.put, List.setIfInBounds_toArray, List.set_cons_zero, List.set_cons_succ]
                        refine wpAny_at (i := 6) (v := .int .i64 m) (some 57) rfl rfl (by kernel_rfl) (by kernel_rfl) (by kernel_rfl) (fun _ _ _ h => h) (by kernel_rfl) (fun _ => ex_binOp .sub 3 _ _ _ (.int .i64 ((m : Int) + 1)) (.int .i64 1) _ rfl (by kernel_rfl) (by kernel_rfl) (HSB.out _)) ?_
                        simp only [Act.put, List.setIfInBounds_toArray, List.set_cons_zero, List.set_cons_succ]
                        refine wpAny_at (i := 7) (v := .int .u8 (s[m].toNat)) (some 58) rfl rfl (by kernel_rfl) (by kernel_rfl) (by kernel_rfl) (fun _ _ _ h => h) (by kernel_rfl) (fun _ => ex_index 9 _ _ (.string s) (.int .i64 m) _ rfl (by kernel_rfl) (by kernel_rfl) (HIX.out _)) ?_
                        simp only [Act.put, List.setIfInBounds_toArray, List.set_cons_zero, List.set_cons_succ]
                        refine wpAny_val 3 (some 54) (.agg (atC x).toArray) (by kernel_rfl) rfl rfl (by kernel_rfl) (ex_load 26 _ (.pointer (some ⟨q, 0, none⟩)) _ rfl (by kernel_rfl) (HLD.out)) ?_
                        simp only [Act.put, List.setIfInBounds_toArray, List.set_cons_zero, List.set_cons_succ]
                        refine wpAny_call 8 (some 59) (by kernel_rfl) rfl rfl (by kernel_rfl) 82 (#[.agg (atC x).toArray, .int .u8 (s[m].toNat)]) (by go_simp) (HC.out _) ?_
                        rintro e w7 ⟨rfl, hb7⟩
                        refine ⟨_, rfl, ?_⟩
                        have qa := (HG4.out.of_block (hb7.block _ HG4.out.lt)).cell (i := m) (by omega)
                        have qn := (HR4.out.of_block (hb7.block _ HR4.out.lt)).cell (i := m) (by omega)
                        have qy := (HA4.out.keep (hb7.block _ hq4)).many
                        rw [if_neg (by omega), if_pos (by omega)] at qn
                        rw [hfi] at qa
                        rw [hmm] at qy
                        rw [hni] at qn
                        have rf7 := (HR4.out.of_block (hb7.block _ HR4.out.lt)).frozen (m + 1)
                        have r7 := (HR4.out.of_block (hb7.block _ HR4.out.lt)).cell (i := m + 1) hil
                        rw [if_pos rfl] at r7
                        change wpAny _ _ _ _ _ _ (Act.put _ (some 59) _) _
                        simp only [Act.put, List.setIfInBounds_toArray, List.set_cons_zero, List.set_cons_succ]
                        refine wpAny_at (i := 9) (v := .bool true) (some 60) rfl rfl (by kernel_rfl) (by kernel_rfl) (by kernel_rfl) (fun _ _ _ h => h) (by kernel_rfl) (fun _ => ex_pick _ _ _ true (.bool true) (.bool false) rfl (by kernel_rfl) (by kernel_rfl) (by kernel_rfl)) ?_
                        simp only [Act.put, List.setIfInBounds_toArray, List.set_cons_zero, List.set_cons_succ]
                        refine wpAny_at (i := 10) (v := .bool true) (some 61) rfl rfl (by kernel_rfl) (by kernel_rfl) (by kernel_rfl) (fun _ _ _ h => h) (by kernel_rfl) (fun _ => ex_move _ _ rfl (by kernel_rfl)) ?_
                        simp only [Act.put, List.setIfInBounds_toArray, List.set_cons_zero, List.set_cons_succ]
                        refine wpAny_at (i := 11) (v := .slice (some ⟨b, 0, none⟩) (s.size + 1) (s.size + 1)) (some 62) rfl rfl (by kernel_rfl) (by kernel_rfl) (by kernel_rfl) (fun _ _ _ h => h) (by kernel_rfl) (fun _ => ex_move _ _ rfl (by kernel_rfl)) ?_
                        simp only [Act.put, List.setIfInBounds_toArray, List.set_cons_zero, List.set_cons_succ]
                        refine wpAny_at (i := 12) (v := .int .i64 ((m : Int) + 1)) (some 63) rfl rfl (by kernel_rfl) (by kernel_rfl) (by kernel_rfl) (fun _ _ _ h => h) (by kernel_rfl) (fun _ => ex_move _ _ rfl (by kernel_rfl)) ?_
                        simp only [Act.put, List.setIfInBounds_toArray, List.set_cons_zero, List.set_cons_succ]
                        refine wpAny_at (i := 13) (v := .int .i64 m) (some 64) rfl rfl (by kernel_rfl) (by kernel_rfl) (by kernel_rfl) (fun _ _ _ h => h) (by kernel_rfl) (fun _ => ex_binOp .sub 3 _ _ _ (.int .i64 ((m : Int) + 1)) (.int .i64 1) _ rfl (by kernel_rfl) (by kernel_rfl) (HSB.out _)) ?_
                        simp only [Act.put, List.setIfInBounds_toArray, List.set_cons_zero, List.set_cons_succ]
                        refine wpAny_at (i := 14) (v := .pointer (some ⟨b, m, none⟩)) (some 65) rfl rfl (by kernel_rfl) (by kernel_rfl) (by kernel_rfl) (fun _ _ _ h => h) (by kernel_rfl) (fun _ => ex_indexAddr 86 _ _ (.slice (some ⟨b, 0, none⟩) (s.size + 1) (s.size + 1)) (.int .i64 m) _ rfl (by kernel_rfl) (by kernel_rfl) (HIB.out _)) ?_
                        simp only [Act.put, List.setIfInBounds_toArray, List.set_cons_zero, List.set_cons_succ]
                        refine wpAny_val 15 (some 66) (.bool false) (by kernel_rfl) rfl rfl (by kernel_rfl) (ex_load 4 _ (.pointer (some ⟨b, m, none⟩)) _ rfl (by kernel_rfl) (by go_simp)) ?_
                        simp only [Act.put, List.setIfInBounds_toArray, List.set_cons_zero, List.set_cons_succ]
                        refine wpAny_at (i := 16) (v := .bool false) (some 67) rfl rfl (by kernel_rfl) (by kernel_rfl) (by kernel_rfl) (fun _ _ _ h => h) (by kernel_rfl) (fun _ => ex_move _ _ rfl (by kernel_rfl)) ?_
                        simp only [Act.put, List.setIfInBounds_toArray, List.set_cons_zero, List.set_cons_succ]
                        refine wpAny_at (i := 17) (v := .pointer (some ⟨q, 33, none⟩)) (some 68) rfl rfl (by kernel_rfl) (by kernel_rfl) (by kernel_rfl) (fun _ _ _ h => h) (by kernel_rfl) (fun _ => ex_fieldAddr 26 _ 2 (.pointer (some ⟨q, 0, none⟩)) _ rfl (by kernel_rfl) (by go_simp)) ?_
                        simp only [Act.put, List.setIfInBounds_toArray, List.set_cons_zero, List.set_cons_succ]
                        refine wpAny_val 18 (some 69) (.bool true) (by kernel_rfl) rfl rfl (by kernel_rfl) (ex_load 4 _ (.pointer (some ⟨q, 33, none⟩)) _ rfl (by kernel_rfl) (by go_simp)) ?_
                        simp only [Act.put, List.setIfInBounds_toArray, List.set_cons_zero, List.set_cons_succ]
                        refine wpAny_at (i := 19) (v := .bool true) (some 70) rfl rfl (by kernel_rfl) (by kernel_rfl) (by kernel_rfl) (fun _ _ _ h => h) (by kernel_rfl) (fun _ => ex_move _ _ rfl (by kernel_rfl)) ?_
                        simp only [Act.put, List.setIfInBounds_toArray, List.set_cons_zero, List.set_cons_succ]
                        refine wpAny_at (i := 20) (v := .slice (some ⟨N, 0, none⟩) (s.size + 1) (s.size + 1)) (some 71) rfl rfl (by kernel_rfl) (by kernel_rfl) (by kernel_rfl) (fun _ _ _ h => h) (by kernel_rfl) (fun _ => ex_move _ _ rfl (by kernel_rfl)) ?_
                        simp only [Act.put, List.setIfInBounds_toArray, List.set_cons_zero, List.set_cons_succ]
                        refine wpAny_at (i := 21) (v := .int .i64 ((m : Int) + 1)) (some 72) rfl rfl (by kernel_rfl) (by kernel_rfl) (by kernel_rfl) (fun _ _ _ h => h) (by kernel_rfl) (fun _ => ex_move _ _ rfl (by kernel_rfl)) ?_
                        simp only [Act.put, List.setIfInBounds_toArray, List.set_cons_zero, List.set_cons_succ]
                        refine wpAny_at (i := 22) (v := .int .i64 m) (some 73) rfl rfl (by kernel_rfl) (by kernel_rfl) (by kernel_rfl) (fun _ _ _ h => h) (by kernel_rfl) (fun _ => ex_binOp .sub 3 _ _ _ (.int .i64 ((m : Int) + 1)) (.int .i64 1) _ rfl (by kernel_rfl) (by kernel_rfl) (HSB.out _)) ?_
                        simp only [Act.put, List.setIfInBounds_toArray, List.set_cons_zero, List.set_cons_succ]
                        refine wpAny_at (i := 23) (v := .pointer (some ⟨N, m, none⟩)) (some 74) rfl rfl (by kernel_rfl) (by kernel_rfl) (by kernel_rfl) (fun _ _ _ h => h) (by kernel_rfl) (fun _ => ex_indexAddr 86 _ _ (.slice (some ⟨N, 0, none⟩) (s.size + 1) (s.size + 1)) (.int .i64 m) _ rfl (by kernel_rfl) (by kernel_rfl) (HIN.out _)) ?_
                        simp only [Act.put, List.setIfInBounds_toArray, List.set_cons_zero, List.set_cons_succ]
                        refine wpAny_val 24 (some 75) (.bool true) (by kernel_rfl) rfl rfl (by kernel_rfl) (ex_load 4 _ (.pointer (some ⟨N, m, none⟩)) _ rfl (by kernel_rfl) (by go_simp)) ?_
                        simp only [Act.put, List.setIfInBounds_toArray, List.set_cons_zero, List.set_cons_succ]
                        refine wpAny_at (i := 25) (v := .bool true) (some 76) rfl rfl (by kernel_rfl) (by kernel_rfl) (by kernel_rfl) (fun _ _ _ h => h) (by kernel_rfl) (fun _ => ex_pick _ _ _ true (.bool true) (.bool false) rfl (by kernel_rfl) (by kernel_rfl) (by kernel_rfl)) ?_
                        simp only [Act.put, List.setIfInBounds_toArray, List.set_cons_zero, List.set_cons_succ]
                        refine wpAny_at (i := 26) (v := .bool true) (some 77) rfl rfl (by kernel_rfl) (by kernel_rfl) (by kernel_rfl) (fun _ _ _ h => h) (by kernel_rfl) (fun _ => ex_pick _ _ _ false (.bool true) (.bool true) rfl (by kernel_rfl) (by kernel_rfl) (by kernel_rfl)) ?_
                        simp only [Act.put, List.setIfInBounds_toArray, List.set_cons_zero, List.set_cons_succ]
                        refine wpAny_at (i := 27) (v := .bool true) (some 78) rfl rfl (by kernel_rfl) (by kernel_rfl) (by kernel_rfl) (fun _ _ _ h => h) (by kernel_rfl) (fun _ => ex_pick _ _ _ true (.bool true) (.bool false) rfl (by kernel_rfl) (by kernel_rfl) (by kernel_rfl)) ?_
                        simp only [Act.put, List.setIfInBounds_toArray, List.set_cons_zero, List.set_cons_succ]
                        refine wpAny_done (by kernel_rfl) ?_ _
                        go_wp2_with fail
                        have HR7 := Lib.hid (HR4.out.of_block (hb7.block _ HR4.out.lt))
                        have HG7 := Lib.hid (HG4.out.of_block (hb7.block _ HG4.out.lt))
                        have HA7 := Lib.hid (HA4.out.keep (hb7.block _ hq4))
                        have HB7 := Lib.hid (HB4.out.trans (hb7.mono HB4.out.size))
                        have HRE : Hid ((w7.setCell ⟨N, m + 1, none⟩ (.bool true)).rowIs N 4 (s.size + 1) (fun j => .bool (if j < m + 1 + 1 then advF x s g j else false))) := (HR7.out.set (m + 1) (.bool true)).congr fun j hj => by
                          by_cases h : j = m + 1
                          · rw [if_pos h, if_pos (by omega), h, HVE.out]
                          · rw [if_neg h, if_neg h]
                            by_cases h2 : j < m + 1
                            · rw [if_pos h2, if_pos (by omega)]
                            · rw [if_neg h2, if_neg (by omega)]
                        go_roundg (s.size + 1 - (m + 1 + 1))
                        case measure => omega
                        case rel => exact ⟨m + 1 + 1, by omega, by go_num, HRE.out, HG7.out.of_block (Below.heap_setCell _ _ _ _ (show b ≠ N by omega)), HA7.out.keep (Below.heap_setCell _ _ _ _ (show q ≠ N by omega)), HB7.out.setCell (p := ⟨N, m + 1, none⟩) (show w.heap.size ≤ N by omega) _, Nat.le_refl _⟩
                      | false =>
                        rw [hni] at HV
                        have HVE : Hid (advF x s g (m + 1) = gi) := by
                          show _ = _
                          rw [HV.out]
                          exact Bool.or_false _
                        refine wp_region_at 28 #[false, false, false, false, false, false, false, false, false, false, false, false, false, false, false, false, false, false, false, false, false, false, false, false, false, false, false, false] rfl rfl (by kernel_rfl) ?_
                        refine wpAny_at (i := 0) (v := .int .i64 ((m : Int) + 1)) (some 51) rfl rfl (by kernel_rfl) (by kernel_rfl) (by kernel_rfl) (fun _ _ _ h => h) (by kernel_rfl) (fun _ => ex_move _ _ rfl (by kernel_rfl)) ?_
                        simp only [Act.put, List.setIfInBounds_toArray, List.set_cons_zero, List.set_cons_succ]
                        refine wpAny_at (i := 1) (v := .bool true) (some 52) rfl rfl (by kernel_rfl) (by kernel_rfl) (by kernel_rfl) (fun _ _ _ h => h) (by kernel_rfl) (fun _ => ex_binOp .gtr 3 _ _ _ (.int .i64 ((m : Int) + 1)) (.int .i64 0) _ rfl (by kernel_rfl) (by kernel_rfl) (HGT.out _)) ?_
                        simp only [Act.put, List.setIfInBounds_toArray, List.set_cons_zero, List.set_cons_succ]
                        refine wpAny_at (i := 2) (v := .bool true) (some 53) rfl rfl (by kernel_rfl) (by kernel_rfl) (by kernel_rfl) (fun _ _ _ h => h) (by kernel_rfl) (fun _ => ex_move _ _ rfl (by kernel_rfl)) ?_
                        simp only [Act.put, List.setIfInBounds_toArray, List.set_cons_zero, List.set_cons_succ]
                        refine wpAny_at (i := 4) (v := .string s) (some 55) rfl rfl (by kernel_rfl) (by kernel_rfl) (by kernel_rfl) (fun _ _ _ h => h) (by kernel_rfl) (fun _ => ex_move _ _ rfl (by kernel_rfl)) ?_
                        simp only [Act.put, List.setIfInBounds_toArray, List.set_cons_zero, List.set_cons_succ]
                        refine wpAny_at (i := 5) (v := .int .i64 ((m : Int) + 1)) (some 56) rfl rfl (by kernel_rfl) (by kernel_rfl) (by kernel_rfl) (fun _ _ _ h => h) (by kernel_rfl) (fun _ => ex_move _ _ rfl (by kernel_rfl)) ?_
                        simp only [Act.put, List.setIfInBounds_toArray, List.set_cons_zero, List.set_cons_succ]
                        refine wpAny_at (i := 6) (v := .int .i64 m) (some 57) rfl rfl (by kernel_rfl) (by kernel_rfl) (by kernel_rfl) (fun _ _ _ h => h) (by kernel_rfl) (fun _ => ex_binOp .sub 3 _ _ _ (.int .i64 ((m : Int) + 1)) (.int .i64 1) _ rfl (by kernel_rfl) (by kernel_rfl) (HSB.out _)) ?_
                        simp only [Act.put, List.setIfInBounds_toArray, List.set_cons_zero, List.set_cons_succ]
                        refine wpAny_at (i := 7) (v := .int .u8 (s[m].toNat)) (some 58) rfl rfl (by kernel_rfl) (by kernel_rfl) (by kernel_rfl) (fun _ _ _ h => h) (by kernel_rfl) (fun _ => ex_index 9 _ _ (.string s) (.int .i64 m) _ rfl (by kernel_rfl) (by kernel_rfl) (HIX.out _)) ?_
                        simp only [Act.put, List.setIfInBounds_toArray, List.set_cons_zero, List.set_cons_succ]
                        refine wpAny_val 3 (some 54) (.agg (atC x).toArray) (by kernel_rfl) rfl rfl (by kernel_rfl) (ex_load 26 _ (.pointer (some ⟨q, 0, none⟩)) _ rfl (by kernel_rfl) (HLD.out)) ?_
                        simp only [Act.put, List.setIfInBounds_toArray, List.set_cons_zero, List.set_cons_succ]
                        refine wpAny_call 8 (some 59) (by kernel_rfl) rfl rfl (by kernel_rfl) 82 (#[.agg (atC x).toArray, .int .u8 (s[m].toNat)]) (by go_simp) (HC.out _) ?_
                        rintro e w7 ⟨rfl, hb7⟩
                        refine ⟨_, rfl, ?_⟩
                        have qa := (HG4.out.of_block (hb7.block _ HG4.out.lt)).cell (i := m) (by omega)
                        have qn := (HR4.out.of_block (hb7.block _ HR4.out.lt)).cell (i := m) (by omega)
                        have qy := (HA4.out.keep (hb7.block _ hq4)).many
                        rw [if_neg (by omega), if_pos (by omega)] at qn
                        rw [hfi] at qa
                        rw [hmm] at qy
                        rw [hni] at qn
                        have rf7 := (HR4.out.of_block (hb7.block _ HR4.out.lt)).frozen (m + 1)
                        have r7 := (HR4.out.of_block (hb7.block _ HR4.out.lt)).cell (i := m + 1) hil
                        rw [if_pos rfl] at r7
                        change wpAny _ _ _ _ _ _ (Act.put _ (some 59) _) _
                        simp only [Act.put, List.setIfInBounds_toArray, List.set_cons_zero, List.set_cons_succ]
                        refine wpAny_at (i := 9) (v := .bool true) (some 60) rfl rfl (by kernel_rfl) (by kernel_rfl) (by kernel_rfl) (fun _ _ _ h => h) (by kernel_rfl) (fun _ => ex_pick _ _ _ true (.bool true) (.bool false) rfl (by kernel_rfl) (by kernel_rfl) (by kernel_rfl)) ?_
                        simp only [Act.put, List.setIfInBounds_toArray, List.set_cons_zero, List.set_cons_succ]
                        refine wpAny_at (i := 10) (v := .bool true) (some 61) rfl rfl (by kernel_rfl) (by kernel_rfl) (by kernel_rfl) (fun _ _ _ h => h) (by kernel_rfl) (fun _ => ex_move _ _ rfl (by kernel_rfl)) ?_
                        simp only [Act.put, List.setIfInBounds_toArray, List.set_cons_zero, List.set_cons_succ]
                        refine wpAny_at (i := 11) (v := .slice (some ⟨b, 0, none⟩) (s.size + 1) (s.size + 1)) (some 62) rfl rfl (by kernel_rfl) (by kernel_rfl) (by kernel_rfl) (fun _ _ _ h => h) (by kernel_rfl) (fun _ => ex_move _ _ rfl (by kernel_rfl)) ?_
                        simp only [Act.put, List.setIfInBounds_toArray, List.set_cons_zero, List.set_cons_succ]
                        refine wpAny_at (i := 12) (v := .int .i64 ((m : Int) + 1)) (some 63) rfl rfl (by kernel_rfl) (by kernel_rfl) (by kernel_rfl) (fun _ _ _ h => h) (by kernel_rfl) (fun _ => ex_move _ _ rfl (by kernel_rfl)) ?_
                        simp only [Act.put, List.setIfInBounds_toArray, List.set_cons_zero, List.set_cons_succ]
                        refine wpAny_at (i := 13) (v := .int .i64 m) (some 64) rfl rfl (by kernel_rfl) (by kernel_rfl) (by kernel_rfl) (fun _ _ _ h => h) (by kernel_rfl) (fun _ => ex_binOp .sub 3 _ _ _ (.int .i64 ((m : Int) + 1)) (.int .i64 1) _ rfl (by kernel_rfl) (by kernel_rfl) (HSB.out _)) ?_
                        simp only [Act.put, List.setIfInBounds_toArray, List.set_cons_zero, List.set_cons_succ]
                        refine wpAny_at (i := 14) (v := .pointer (some ⟨b, m, none⟩)) (some 65) rfl rfl (by kernel_rfl) (by kernel_rfl) (by kernel_rfl) (fun _ _ _ h => h) (by kernel_rfl) (fun _ => ex_indexAddr 86 _ _ (.slice (some ⟨b, 0, none⟩) (s.size + 1) (s.size + 1)) (.int .i64 m) _ rfl (by kernel_rfl) (by kernel_rfl) (HIB.out _)) ?_
                        simp only [Act.put, List.setIfInBounds_toArray, List.set_cons_zero, List.set_cons_succ]
                        refine wpAny_val 15 (some 66) (.bool false) (by kernel_rfl) rfl rfl (by kernel_rfl) (ex_load 4 _ (.pointer (some ⟨b, m, none⟩)) _ rfl (by kernel_rfl) (by go_simp)) ?_
                        simp only [Act.put, List.setIfInBounds_toArray, List.set_cons_zero, List.set_cons_succ]
                        refine wpAny_at (i := 16) (v := .bool false) (some 67) rfl rfl (by kernel_rfl) (by kernel_rfl) (by kernel_rfl) (fun _ _ _ h => h) (by kernel_rfl) (fun _ => ex_move _ _ rfl (by kernel_rfl)) ?_
                        simp only [Act.put, List.setIfInBounds_toArray, List.set_cons_zero, List.set_cons_succ]
                        refine wpAny_at (i := 17) (v := .pointer (some ⟨q, 33, none⟩)) (some 68) rfl rfl (by kernel_rfl) (by kernel_rfl) (by kernel_rfl) (fun _ _ _ h => h) (by kernel_rfl) (fun _ => ex_fieldAddr 26 _ 2 (.pointer (some ⟨q, 0, none⟩)) _ rfl (by kernel_rfl) (by go_simp)) ?_
                        simp only [Act.put, List.setIfInBounds_toArray, List.set_cons_zero, List.set_cons_succ]
                        refine wpAny_val 18 (some 69) (.bool true) (by kernel_rfl) rfl rfl (by kernel_rfl) (ex_load 4 _ (.pointer (some ⟨q, 33, none⟩)) _ rfl (by kernel_rfl) (by go_simp)) ?_
                        simp only [Act.put, List.setIfInBounds_toArray, List.set_cons_zero, List.set_cons_succ]
                        refine wpAny_at (i := 19) (v := .bool true) (some 70) rfl rfl (by kernel_rfl) (by kernel_rfl) (by kernel_rfl) (fun _ _ _ h => h) (by kernel_rfl) (fun _ => ex_move _ _ rfl (by kernel_rfl)) ?_
                        simp only [Act.put, List.setIfInBounds_toArray, List.set_cons_zero, List.set_cons_succ]
                        refine wpAny_at (i := 20) (v := .slice (some ⟨N, 0, none⟩) (s.size + 1) (s.size + 1)) (some 71) rfl rfl (by kernel_rfl) (by kernel_rfl) (by kernel_rfl) (fun _ _ _ h => h) (by kernel_rfl) (fun _ => ex_move _ _ rfl (by kernel_rfl)) ?_
                        simp only [Act.put, List.setIfInBounds_toArray, List.set_cons_zero, List.set_cons_succ]
                        refine wpAny_at (i := 21) (v := .int .i64 ((m : Int) + 1)) (some 72) rfl rfl (by kernel_rfl) (by kernel_rfl) (by kernel_rfl) (fun _ _ _ h => h) (by kernel_rfl) (fun _ => ex_move _ _ rfl (by kernel_rfl)) ?_
                        simp only [Act.put, List.setIfInBounds_toArray, List.set_cons_zero, List.set_cons_succ]
                        refine wpAny_at (i := 22) (v := .int .i64 m) (some 73) rfl rfl (by kernel_rfl) (by kernel_rfl) (by kernel_rfl) (fun _ _ _ h => h) (by kernel_rfl) (fun _ => ex_binOp .sub 3 _ _ _ (.int .i64 ((m : Int) + 1)) (.int .i64 1) _ rfl (by kernel_rfl) (by kernel_rfl) (HSB.out _)) ?_
                        simp only [Act.put, List.setIfInBounds_toArray, List.set_cons_zero, List.set_cons_succ]
                        refine wpAny_at (i := 23) (v := .pointer (some ⟨N, m, none⟩)) (some 74) rfl rfl (by kernel_rfl) (by kernel_rfl) (by kernel_rfl) (fun _ _ _ h => h) (by kernel_rfl) (fun _ => ex_indexAddr 86 _ _ (.slice (some ⟨N, 0, none⟩) (s.size + 1) (s.size + 1)) (.int .i64 m) _ rfl (by kernel_rfl) (by kernel_rfl) (HIN.out _)) ?_
                        simp only [Act.put, List.setIfInBounds_toArray, List.set_cons_zero, List.set_cons_succ]
                        refine wpAny_val 24 (some 75) (.bool false) (by kernel_rfl) rfl rfl (by kernel_rfl) (ex_load 4 _ (.pointer (some ⟨N, m, none⟩)) _ rfl (by kernel_rfl) (by go_simp)) ?_
                        simp only [Act.put, List.setIfInBounds_toArray, List.set_cons_zero, List.set_cons_succ]
                        refine wpAny_at (i := 25) (v := .bool false) (some 76) rfl rfl (by kernel_rfl) (by kernel_rfl) (by kernel_rfl) (fun _ _ _ h => h) (by kernel_rfl) (fun _ => ex_pick _ _ _ true (.bool false) (.bool false) rfl (by kernel_rfl) (by kernel_rfl) (by kernel_rfl)) ?_
                        simp only [Act.put, List.setIfInBounds_toArray, List.set_cons_zero, List.set_cons_succ]
                        refine wpAny_at (i := 26) (v := .bool false) (some 77) rfl rfl (by kernel_rfl) (by kernel_rfl) (by kernel_rfl) (fun _ _ _ h => h) (by kernel_rfl) (fun _ => ex_pick _ _ _ false (.bool true) (.bool false) rfl (by kernel_rfl) (by kernel_rfl) (by kernel_rfl)) ?_
                        simp only [Act.put, List.setIfInBounds_toArray, List.set_cons_zero, List.set_cons_succ]
                        refine wpAny_at (i := 27) (v := .bool false) (some 78) rfl rfl (by kernel_rfl) (by kernel_rfl) (by kernel_rfl) (fun _ _ _ h => h) (by kernel_rfl) (fun _ => ex_pick _ _ _ true (.bool false) (.bool false) rfl (by kernel_rfl) (by kernel_rfl) (by kernel_rfl)) ?_
                        simp only [Act.put, List.setIfInBounds_toArray, List.set_cons_zero, List.set_cons_succ]
                        refine wpAny_done (by kernel_rfl) ?_ _
                        go_wp2_with fail
                        have HR7 := Lib.hid (HR4.out.of_block (hb7.block _ HR4.out.lt))
                        have HG7 := Lib.hid (HG4.out.of_block (hb7.block _ HG4.out.lt))
                        have HA7 := Lib.hid (HA4.out.keep (hb7.block _ hq4))
                        have HB7 := Lib.hid (HB4.out.trans (hb7.mono HB4.out.size))
                        have HRE : Hid (w7.rowIs N 4 (s.size + 1) (fun j => .bool (if j < m + 1 + 1 then advF x s g j else false))) := HR7.out.congr fun j hj => by
                          by_cases h : j = m + 1
                          · rw [if_pos h, if_pos (by omega), h, HVE.out]
                          · rw [if_neg h]
                            by_cases h2 : j < m + 1
                            · rw [if_pos h2, if_pos (by omega)]
                            · rw [if_neg h2, if_neg (by omega)]
                        go_roundg (s.size + 1 - (m + 1 + 1))
                        case measure => omega
                        case rel => exact ⟨m + 1 + 1, by omega, by go_num, HRE.out, HG7.out, HA7.out, HB7.out, Nat.le_refl _⟩
            · have HBI : Hid ((decide (x.mn < 1) && g i) = false) := by show _ = _; rw [decide_eq_false hm]; rfl
              have HR1 : Hid ((wr.setCell ⟨N, i, none⟩ (.bool false)).rowIs N 4 (s.size + 1) (fun j => .bool (if j = i then false else if j < i then advF x s g j else false))) := (HR.out.set i (.bool false)).congr fun j hj => by
                by_cases h : j = i
                · rw [if_pos h, if_pos h]
                · rw [if_neg h, if_neg h]
              have HG1 := Lib.hid (HG.out.of_block (w' := (wr.setCell ⟨N, i, none⟩ (.bool false))) (Below.heap_setCell _ _ _ _ (show b ≠ N by omega)))
              have HA1 : Hid (AtIn (wr.setCell ⟨N, i, none⟩ (.bool false)) q x) := HA.out.keep (Below.heap_setCell _ _ _ _ (show q ≠ N by omega))
              have HB1 : Hid (Below w.heap.size w (wr.setCell ⟨N, i, none⟩ (.bool false))) := HB.out.setCell (p := ⟨N, i, none⟩) (show w.heap.size ≤ N by omega) _
              have hN4 : N < (wr.setCell ⟨N, i, none⟩ (.bool false)).heap.size := HR1.out.lt
              go_upto_region 15 with fail
              clear HR HG HA HB qm qg r0 rf hgi
              generalize (wr.setCell ⟨N, i, none⟩ (.bool false)) = w4 at HR1 HG1 HA1 HB1 hN4 ⊢
              rcases i with _ | m
              · have HVE : Hid (advF x s g 0 = false) := by show _ = _; rw [adv_zero, HBI.out]
                refine wp_region_at 28 #[false, false, false, false, false, false, false, false, false, false, false, false, false, false, false, false, false, false, false, false, false, false, false, false, false, false, false, false] rfl rfl (by kernel_rfl) ?_
                refine wpAny_at (i := 0) (v := .int .i64 0) (some 51) rfl rfl (by kernel_rfl) (by kernel_rfl) (by kernel_rfl) (fun _ _ _ h => h) (by kernel_rfl) (fun _ => ex_move _ _ rfl (by kernel_rfl)) ?_
                simp only [Act.put, List.setIfInBounds_toArray, List.set_cons_zero, List.set_cons_succ]
                refine wpAny_at (i := 1) (v := .bool false) (some 52) rfl rfl (by kernel_rfl) (by kernel_rfl) (by kernel_rfl) (fun _ _ _ h => h) (by kernel_rfl) (fun _ => ex_binOp .gtr 3 _ _ _ (.int .i64 0) (.int .i64 0) _ rfl (by kernel_rfl) (by kernel_rfl) (by go_simp)) ?_
                simp only [Act.put, List.setIfInBounds_toArray, List.set_cons_zero, List.set_cons_succ]
                refine wpAny_at (i := 2) (v := .bool false) (some 53) rfl rfl (by kernel_rfl) (by kernel_rfl) (by kernel_rfl) (fun _ _ _ h => h) (by kernel_rfl) (fun _ => ex_move _ _ rfl (by kernel_rfl)) ?_
                simp only [Act.put, List.setIfInBounds_toArray, List.set_cons_zero, List.set_cons_succ]
                refine wpAny_skip 3 (some 54) rfl rfl (by kernel_rfl) (by kernel_rfl) (by kernel_rfl) (fun _ _ _ h => h) (by kernel_rfl) ?_
                simp only [Act.put, List.setIfInBounds_toArray, List.set_cons_zero, List.set_cons_succ]
                refine wpAny_skip 4 (some 55) rfl rfl (by kernel_rfl) (by kernel_rfl) (by kernel_rfl) (fun _ _ _ h => h) (by kernel_rfl) ?_
                simp only [Act.put, List.setIfInBounds_toArray, List.set_cons_zero, List.set_cons_succ]
                refine wpAny_skip 5 (some 56) rfl rfl (by kernel_rfl) (by kernel_rfl) (by kernel_rfl) (fun _ _ _ h => h) (by kernel_rfl) ?_
                simp only [Act.put, List.setIfInBounds_toArray, List.set_cons_zero, List.set_cons_succ]
                refine wpAny_skip 6 (some 57) rfl rfl (by kernel_rfl) (by kernel_rfl) (by kernel_rfl) (fun _ _ _ h => h) (by kernel_rfl) ?_
                simp only [Act.put, List.setIfInBounds_toArray, List.set_cons_zero, List.set_cons_succ]
                refine wpAny_skip 7 (some 58) rfl rfl (by kernel_rfl) (by kernel_rfl) (by kernel_rfl) (fun _ _ _ h => h) (by kernel_rfl) ?_
                simp only [Act.put, List.setIfInBounds_toArray, List.set_cons_zero, List.set_cons_succ]
                refine wpAny_skip 8 (some 59) rfl rfl (by kernel_rfl) (by kernel_rfl) (by kernel_rfl) (fun _ _ _ h => h) (by kernel_rfl) ?_
                simp only [Act.put, List.setIfInBounds_toArray, List.set_cons_zero, List.set_cons_succ]
                refine wpAny_at (i := 9) (v := .bool false) (some 60) rfl rfl (by kernel_rfl) (by kernel_rfl) (by kernel_rfl) (fun _ _ _ h => h) (by kernel_rfl) (fun _ => ex_pick _ _ _ false (undef) (.bool false) rfl (by kernel_rfl) (by kernel_rfl) (by kernel_rfl)) ?_
                simp only [Act.put, List.setIfInBounds_toArray, List.set_cons_zero, List.set_cons_succ]
                refine wpAny_at (i := 10) (v := .bool false) (some 61) rfl rfl (by kernel_rfl) (by kernel_rfl) (by kernel_rfl) (fun _ _ _ h => h) (by kernel_rfl) (fun _ => ex_move _ _ rfl (by kernel_rfl)) ?_
                simp only [Act.put, List.setIfInBounds_toArray, List.set_cons_zero, List.set_cons_succ]
                refine wpAny_skip 11 (some 62) rfl rfl (by kernel_rfl) (by kernel_rfl) (by kernel_rfl) (fun _ _ _ h => h) (by kernel_rfl) ?_
                simp only [Act.put, List.setIfInBounds_toArray, List.set_cons_zero, List.set_cons_succ]
                refine wpAny_skip 12 (some 63) rfl rfl (by kernel_rfl) (by kernel_rfl) (by kernel_rfl) (fun _ _ _ h => h) (by kernel_rfl) ?_
                simp only [Act.put, List.setIfInBounds_toArray, List.set_cons_zero, List.set_cons_succ]
                refine wpAny_skip 13 (some 64) rfl rfl (by kernel_rfl) (by kernel_rfl) (by kernel_rfl) (fun _ _ _ h => h) (by kernel_rfl) ?_
                simp only [Act.put, List.setIfInBounds_toArray, List.set_cons_zero, List.set_cons_succ]
                refine wpAny_skip 14 (some 65) rfl rfl (by kernel_rfl) (by kernel_rfl) (by kernel_rfl) (fun _ _ _ h => h) (by kernel_rfl) ?_
                simp only [Act.put, List.setIfInBounds_toArray, List.set_cons_zero, List.set_cons_succ]
                refine wpAny_skip 15 (some 66) rfl rfl (by kernel_rfl) (by kernel_rfl) (by kernel_rfl) (fun _ _ _ h => h) (by kernel_rfl) ?_
                simp only [Act.put, List.setIfInBounds_toArray, List.set_cons_zero, List.set_cons_succ]
                refine wpAny_skip 16 (some 67) rfl rfl (by kernel_rfl) (by kernel_rfl) (by kernel_rfl) (fun _ _ _ h => h) (by kernel_rfl) ?_
                simp only [Act.put, List.setIfInBounds_toArray, List.set_cons_zero, List.set_cons_succ]
                refine wpAny_skip 17 (some 68) rfl rfl (by kernel_rfl) (by kernel_rfl) (by kernel_rfl) (fun _ _ _ h => h) (by kernel_rfl) ?_
                simp only [Act.put, List.setIfInBounds_toArray, List.set_cons_zero, List.set_cons_succ]
                refine wpAny_skip 18 (some 69) rfl rfl (by kernel_rfl) (by kernel_rfl) (by kernel_rfl) (fun _ _ _ h => h) (by kernel_rfl) ?_
                simp only [Act.put, List.setIfInBounds_toArray, List.set_cons_zero, List.set_cons_succ]
                refine wpAny_skip 19 (some 70) rfl rfl (by kernel_rfl) (by kernel_rfl) (by kernel_rfl) (fun _ _ _ h => h) (by kernel_rfl) ?_
                simp only [Act.put, List.setIfInBounds_toArray, List.set_cons_zero, List.set_cons_succ]
                refine wpAny_skip 20 (some 71) rfl rfl (by kernel_rfl) (by kernel_rfl) (by kernel_rfl) (fun _ _ _ h => h) (by kernel_rfl) ?_
                simp only [Act.put, List.setIfInBounds_toArray, List.set_cons_zero, List.set_cons_succ]
                refine wpAny_skip 21 (some 72) rfl rfl (by kernel_rfl) (by kernel_rfl) (by kernel_rfl) (fun _ _ _ h => h) (by kernel_rfl) ?_
                simp only [Act.put, List.setIfInBounds_toArray, List.set_cons_zero, List.set_cons_succ]
                refine wpAny_skip 22 (some 73) rfl rfl (by kernel_rfl) (by kernel_rfl) (by kernel_rfl) (fun _ _ _ h => h) (by kernel_rfl) ?_
                simp only [Act.put, List.setIfInBounds_toArray, List.set_cons_zero, List.set_cons_succ]
                refine wpAny_skip 23 (some 74) rfl rfl (by kernel_rfl) (by kernel_rfl) (by kernel_rfl) (fun _ _ _ h => h) (by kernel_rfl) ?_
                simp only [Act.put, List.setIfInBounds_toArray, List.set_cons_zero, List.set_cons_succ]
                refine wpAny_skip 24 (some 75) rfl rfl (by kernel_rfl) (by kernel_rfl) (by kernel_rfl) (fun _ _ _ h => h) (by kernel_rfl) ?_
                simp only [Act.put, List.setIfInBounds_toArray, List.set_cons_zero, List.set_cons_succ]
                refine wpAny_skip 25 (some 76) rfl rfl (by kernel_rfl) (by kernel_rfl) (by kernel_rfl) (fun _ _ _ h => h) (by kernel_rfl) ?_
                simp only [Act.put, List.setIfInBounds_toArray, List.set_cons_zero, List.set_cons_succ]
                refine wpAny_skip 26 (some 77) rfl rfl (by kernel_rfl) (by kernel_rfl) (by kernel_rfl) (fun _ _ _ h => h) (by kernel_rfl) ?_
                simp only [Act.put, List.setIfInBounds_toArray, List.set_cons_zero, List.set_cons_succ]
                refine wpAny_at (i := 27) (v := .bool false) (some 78) rfl rfl (by kernel_rfl) (by kernel_rfl) (by kernel_rfl) (fun _ _ _ h => h) (by kernel_rfl) (fun _ => ex_pick _ _ _ false (undef) (.bool false) rfl (by kernel_rfl) (by kernel_rfl) (by kernel_rfl)) ?_
                simp only [Act.put, List.setIfInBounds_toArray, List.set_cons_zero, List.set_cons_succ]
                refine wpAny_done (by kernel_rfl) ?_ _
                have HRE : Hid (w4.drew.rowIs N 4 (s.size + 1) (fun j => .bool (if j < 0 + 1 then advF x s g j else false))) := HR1.out.congr fun j hj => by
                  by_cases h : j = 0
                  · rw [if_pos h, if_pos (by omega), h, HVE.out]
                  · rw [if_neg h, if_neg (by omega), if_neg (by omega)]
                go_wp2_with fail
                go_roundg (s.size + 1 - (0 + 1))
                case measure => omega
                case rel => exact ⟨0 + 1, by omega, by go_num, HRE.out, HG1.out.drew, HA1.out, HB1.out.drew, Nat.le_refl _⟩
              · have hms : m < s.size := by omega
                have hmsi : (m : Int) < (s.size : Int) := by omega
                have hm0 : (0 : Int) ≤ (m : Int) := by omega
                have hc1 : ((m + 1 : Nat) : Int) = (m : Int) + 1 := by omega
                rw [hc1]
                have HLD := Lib.hid (run_loadAt_mid (P := Tryd.prog) w4.drew q 0 26 (atC x) _ (at_range HA1.out) hu rfl (by rw [hi, atC_len]))
                have HGT : Hid (∀ w, (do eqGuard .gtr 3 (.tmp 51) (.const (.int .i64 0)) (.int .i64 ((m : Int) + 1)) (.int .i64 0); Go.binOp .gtr 3 (.int .i64 ((m : Int) + 1)) (.int .i64 0) : Sem Value).run Tryd.prog w = .ok (.bool true) w) := by
                  have h1 : (0 : Int) < (m : Int) + 1 := by omega
                  show ∀ w, _ = _
                  intro w
                  go_simp
                have HSB : Hid (∀ {x y : Operand} (w : World), (do eqGuard .sub 3 x y (.int .i64 ((m : Int) + 1)) (.int .i64 1); Go.binOp .sub 3 (.int .i64 ((m : Int) + 1)) (.int .i64 1) : Sem Value).run Tryd.prog w = .ok (.int .i64 m) w) := by
                  show ∀ (x y : Operand) (w : World), _ = _
                  intro x y w
                  go_simp
                  rw [IntKind.wrap_i64]
                  omega
                have HIX : Hid (∀ w, (Instr.index 9 (.string s) (.int .i64 m)).run Tryd.prog w = .ok (.int .u8 (s[m].toNat)) w) := by
                  show ∀ w, _ = _
                  intro w
                  go_simp
                have hmi2 : (m : Int) < (s.size : Int) + 1 := by omega
                have HIB : Hid (∀ w, (Instr.indexAt 86 (.slice (some ⟨b, 0, none⟩) (s.size + 1) (s.size + 1)) (.int .i64 m)).run Tryd.prog w = .ok (.pointer (some ⟨b, m, none⟩)) w) := by
                  show ∀ w, _ = _
                  intro w
                  go_simp
                have HIN : Hid (∀ w, (Instr.indexAt 86 (.slice (some ⟨N, 0, none⟩) (s.size + 1) (s.size + 1)) (.int .i64 m)).run Tryd.prog w = .ok (.pointer (some ⟨N, m, none⟩)) w) := by
                  show ∀ w, _ = _
                  intro w
                  go_simp
                have HV : Hid (advF x s g (m + 1) = (false || (x.p (s[m].toNat) && (g m || (x.many && advF x s g m))))) := by
                  show _ = _
                  rw [adv_own, HBI.out, bt_get s m hms]
                have HC0 := Lib.hid (fun w => contains_any x (s[m].toNat) w (UInt8.toNat_lt _))
                have HR4 : Hid (w4.drew.rowIs N 4 (s.size + 1) (fun j => .bool (if j = m + 1 then false else if j < m + 1 then advF x s g j else false))) := HR1.out
                have HG4 : Hid (w4.drew.rowIs b 4 (s.size + 1) (fun j => .bool (g j))) := HG1.out
                have HA4 : Hid (AtIn w4.drew q x) := HA1.out
                have HB4 : Hid (Below w.heap.size w w4.drew) := HB1.out.drew
                have hq4 : q < w4.drew.heap.size := (Array.getElem?_eq_some_iff.1 HA1.out).1
                have hN5 : N < w4.drew.heap.size := hN4
                clear HR1 HG1 HA1 HB1 hN4
                cases hpx : x.p (s[m].toNat) with
                | false =>
                  rw [hpx] at HV
                  have HC := HC0
                  rw [hpx] at HC
                  have HVE : Hid (advF x s g (m + 1) = false) := by
                    show _ = _
                    rw [HV.out]
                    exact Bool.or_false _
                  refine wp_region_at 28 #[false, false, false, false, false, false, false, false, false, false, false, false, false, false, false, false, false, false, false, false, false, false, false, false, false, false, false, false] rfl rfl (by kernel_rfl) ?_
                  refine wpAny_at (i := 0) (v := .int .i64 ((m : Int) + 1)) (some 51) rfl rfl (by kernel_rfl) (by kernel_rfl) (by kernel_rfl) (fun _ _ _ h => h) (by kernel_rfl) (fun _ => ex_move _ _ rfl (by kernel_rfl)) ?_
                  simp only [Act.put, List.setIfInBounds_toArray, List.set_cons_zero, List.set_cons_succ]
                  refine wpAny_at (i := 1) (v := .bool true) (some 52) rfl rfl (by kernel_rfl) (by kernel_rfl) (by kernel_rfl) (fun _ _ _ h => h) (by kernel_rfl) (fun _ => ex_binOp .gtr 3 _ _ _ (.int .i64 ((m : Int) + 1)) (.int .i64 0) _ rfl (by kernel_rfl) (by kernel_rfl) (HGT.out _)) ?_
                  simp only [Act.put, List.setIfInBounds_toArray, List.set_cons_zero, List.set_cons_succ]
                  refine wpAny_at (i := 2) (v := .bool true) (some 53) rfl rfl (by kernel_rfl) (by kernel_rfl) (by kernel_rfl) (fun _ _ _ h => h) (by kernel_rfl) (fun _ => ex_move _ _ rfl (by kernel_rfl)) ?_
                  simp only [Act.put, List.setIfInBounds_toArray, List.set_cons_zero, List.set_cons_succ]
                  refine wpAny_at (i := 4) (v := .string s) (some 55) rfl rfl (by kernel_rfl) (by kernel_rfl) (by kernel_rfl) (fun _ _ _ h => h) (by kernel_rfl) (fun _ => ex_move _ _ rfl (by kernel_rfl)) ?_
                  simp only [Act.put, List.setIfInBounds_toArray, List.set_cons_zero, List.set_cons_succ]
                  refine wpAny_at (i := 5) (v := .int .i64 ((m : Int) + 1)) (some 56) rfl rfl (by kernel_rfl) (by kernel_rfl) (by kernel_rfl) (fun _ _ _ h => h) (by kernel_rfl) (fun _ => ex_move _ _ rfl (by kernel_rfl)) ?_
                  simp only [Act.put, List.setIfInBounds_toArray, List.set_cons_zero, List.set_cons_succ]
                  refine wpAny_at (i := 6) (v := .int .i64 m) (some 57) rfl rfl (by kernel_rfl) (by kernel_rfl) (by kernel_rfl) (fun _ _ _ h => h) (by kernel_rfl) (fun _ => ex_binOp .sub 3 _ _ _ (.int .i64 ((m : Int) + 1)) (.int .i64 1) _ rfl (by kernel_rfl) (by kernel_rfl) (HSB.out _)) ?_
                  simp only [Act.put, List.setIfInBounds_toArray, List.set_cons_zero, List.set_cons_succ]
                  refine wpAny_at (i := 7) (v := .int .u8 (s[m].toNat)) (some 58) rfl rfl (by kernel_rfl) (by kernel_rfl) (by kernel_rfl) (fun _ _ _ h => h) (by kernel_rfl) (fun _ => ex_index 9 _ _ (.string s) (.int .i64 m) _ rfl (by kernel_rfl) (by kernel_rfl) (HIX.out _)) ?_
                  simp only [Act.put, List.setIfInBounds_toArray, List.set_cons_zero, List.set_cons_succ]
                  refine wpAny_val 3 (some 54) (.agg (atC x).toArray) (by kernel_rfl) rfl rfl (by kernel_rfl) (ex_load 26 _ (.pointer (some ⟨q, 0, none⟩)) _ rfl (by kernel_rfl) (HLD.out)) ?_
                  simp only [Act.put, List.setIfInBounds_toArray, List.set_cons_zero, List.set_cons_succ]
                  refine wpAny_call 8 (some 59) (by kernel_rfl) rfl rfl (by kernel_rfl) 82 (#[.agg (atC x).toArray, .int .u8 (s[m].toNat)]) (by go_simp) (HC.out _) ?_
                  rintro e w7 ⟨rfl, hb7⟩
                  refine ⟨_, rfl, ?_⟩
                  have qa := (HG4.out.of_block (hb7.block _ HG4.out.lt)).cell (i := m) (by omega)
                  have qn := (HR4.out.of_block (hb7.block _ HR4.out.lt)).cell (i := m) (by omega)
                  have qy := (HA4.out.keep (hb7.block _ hq4)).many
                  rw [if_neg (by omega), if_pos (by omega)] at qn
                  have rf7 := (HR4.out.of_block (hb7.block _ HR4.out.lt)).frozen (m + 1)
                  have r7 := (HR4.out.of_block (hb7.block _ HR4.out.lt)).cell (i := m + 1) hil
                  rw [if_pos rfl] at r7
                  change wpAny _ _ _ _ _ _ (Act.put _ (some 59) _) _
                  simp only [Act.put, List.setIfInBounds_toArray, List.set_cons_zero, List.set_cons_succ]
                  refine wpAny_at (i := 9) (v := .bool false) (some 60) rfl rfl (by kernel_rfl) (by kernel_rfl) (by kernel_rfl) (fun _ _ _ h => h) (by kernel_rfl) (fun _ => ex_pick _ _ _ true (.bool false) (.bool false) rfl (by kernel_rfl) (by kernel_rfl) (by kernel_rfl)) ?_
                  simp only [Act.put, List.setIfInBounds_toArray, List.set_cons_zero, List.set_cons_succ]
                  refine wpAny_at (i := 10) (v := .bool false) (some 61) rfl rfl (by kernel_rfl) (by kernel_rfl) (by kernel_rfl) (fun _ _ _ h => h) (by kernel_rfl) (fun _ => ex_move _ _ rfl (by kernel_rfl)) ?_
                  simp only [Act.put, List.setIfInBounds_toArray, List.set_cons_zero, List.set_cons_succ]
                  refine wpAny_skip 11 (some 62) rfl rfl (by kernel_rfl) (by kernel_rfl) (by kernel_rfl) (fun _ _ _ h => h) (by kernel_rfl) ?_
                  simp only [Act.put, List.setIfInBounds_toArray, List.set_cons_zero, List.set_cons_succ]
                  refine wpAny_skip 12 (some 63) rfl rfl (by kernel_rfl) (by kernel_rfl) (by kernel_rfl) (fun _ _ _ h => h) (by kernel_rfl) ?_
                  simp only [Act.put, List.setIfInBounds_toArray, List.set_cons_zero, List.set_cons_succ]
                  refine wpAny_skip 13 (some 64) rfl rfl (by kernel_rfl) (by kernel_rfl) (by kernel_rfl) (fun _ _ _ h => h) (by kernel_rfl) ?_
                  simp only [Act.put, List.setIfInBounds_toArray, List.set_cons_zero, List.set_cons_succ]
                  refine wpAny_skip 14 (some 65) rfl rfl (by kernel_rfl) (by kernel_rfl) (by kernel_rfl) (fun _ _ _ h => h) (by kernel_rfl) ?_
                  simp only [Act.put, List.setIfInBounds_toArray, List.set_cons_zero, List.set_cons_succ]
                  refine wpAny_skip 15 (some 66) rfl rfl (by kernel_rfl) (by kernel_rfl) (by kernel_rfl) (fun _ _ _ h => h) (by kernel_rfl) ?_
                  simp only [Act.put, List.setIfInBounds_toArray, List.set_cons_zero, List.set_cons_succ]
                  refine wpAny_skip 16 (some 67) rfl rfl (by kernel_rfl) (by kernel_rfl) (by kernel_rfl) (fun _ _ _ h => h) (by kernel_rfl) ?_
                  simp only [Act.put, List.setIfInBounds_toArray, List.set_cons_zero, List.set_cons_succ]
                  refine wpAny_skip 17 (some 68) rfl rfl (by kernel_rfl) (by kernel_rfl) (by kernel_rfl) (fun _ _ _ h => h) (by kernel_rfl) ?_
                  simp only [Act.put, List.setIfInBounds_toArray, List.set_cons_zero, List.set_cons_succ]
                  refine wpAny_skip 18 (some 69) rfl rfl (by kernel_rfl) (by kernel_rfl) (by kernel_rfl) (fun _ _ _ h => h) (by kernel_rfl) ?_
                  simp only [Act.put, List.setIfInBounds_toArray, List.set_cons_zero, List.set_cons_succ]
                  refine wpAny_skip 19 (some 70) rfl rfl (by kernel_rfl) (by kernel_rfl) (by kernel_rfl) (fun _ _ _ h => h) (by kernel_rfl) ?_
                  simp only [Act.put, List.setIfInBounds_toArray, List.set_cons_zero, List.set_cons_succ]
                  refine wpAny_skip 20 (some 71) rfl rfl (by kernel_rfl) (by kernel_rfl) (by kernel_rfl) (fun _ _ _ h => h) (by kernel_rfl) ?_
                  simp only [Act.put, List.setIfInBounds_toArray, List.set_cons_zero, List.set_cons_succ]
                  refine wpAny_skip 21 (some 72) rfl rfl (by kernel_rfl) (by kernel_rfl) (by kernel_rfl) (fun _ _ _ h => h) (by kernel_rfl) ?_
                  simp only [Act.put, List.setIfInBounds_toArray, List.set_cons_zero, List.set_cons_succ]
                  refine wpAny_skip 22 (some 73) rfl rfl (by kernel_rfl) (by kernel_rfl) (by kernel_rfl) (fun _ _ _ h => h) (by kernel_rfl) ?_
                  simp only [Act.put, List.setIfInBounds_toArray, List.set_cons_zero, List.set_cons_succ]
                  refine wpAny_skip 23 (some 74) rfl rfl (by kernel_rfl) (by kernel_rfl) (by kernel_rfl) (fun _ _ _ h => h) (by kernel_rfl) ?_
                  simp only [Act.put, List.setIfInBounds_toArray, List.set_cons_zero, List.set_cons_succ]
                  refine wpAny_skip 24 (some 75) rfl rfl (by kernel_rfl) (by kernel_rfl) (by kernel_rfl) (fun _ _ _ h => h) (by kernel_rfl) ?_
                  simp only [Act.put, List.setIfInBounds_toArray, List.set_cons_zero, List.set_cons_succ]
                  refine wpAny_skip 25 (some 76) rfl rfl (by kernel_rfl) (by kernel_rfl) (by kernel_rfl) (fun _ _ _ h => h) (by kernel_rfl) ?_
                  simp only [Act.put, List.setIfInBounds_toArray, List.set_cons_zero, List.set_cons_succ]
                  refine wpAny_skip 26 (some 77) rfl rfl (by kernel_rfl) (by kernel_rfl) (by kernel_rfl) (fun _ _ _ h => h) (by kernel_rfl) ?_
                  simp only [Act.put, List.setIfInBounds_toArray, List.set_cons_zero, List.set_cons_succ]
                  refine wpAny_at (i := 27) (v := .bool false) (some 78) rfl rfl (by kernel_rfl) (by kernel_rfl) (by kernel_rfl) (fun _ _ _ h => h) (by kernel_rfl) (fun _ => ex_pick _ _ _ false (undef) (.bool false) rfl (by kernel_rfl) (by kernel_rfl) (by kernel_rfl)) ?_
                  simp only [Act.put, List.setIfInBounds_toArray, List.set_cons_zero, List.set_cons_succ]
                  refine wpAny_done (by kernel_rfl) ?_ _
                  go_wp2_with fail
                  have HR7 := Lib.hid (HR4.out.of_block (hb7.block _ HR4.out.lt))
                  have HG7 := Lib.hid (HG4.out.of_block (hb7.block _ HG4.out.lt))
                  have HA7 := Lib.hid (HA4.out.keep (hb7.block _ hq4))
                  have HB7 := Lib.hid (HB4.out.trans (hb7.mono HB4.out.size))
                  have HRE : Hid (w7.rowIs N 4 (s.size + 1) (fun j => .bool (if j < m + 1 + 1 then advF x s g j else false))) := HR7.out.congr fun j hj => by
                    by_cases h : j = m + 1
                    · rw [if_pos h, if_pos (by omega), h, HVE.out]
                    · rw [if_neg h]
                      by_cases h2 : j < m + 1
                      · rw [if_pos h2, if_pos (by omega)]
                      · rw [if_neg h2, if_neg (by omega)]
                  go_roundg (s.size + 1 - (m + 1 + 1))
                  case measure => omega
                  case rel => exact ⟨m + 1 + 1, by omega, by go_num, HRE.out, HG7.out, HA7.out, HB7.out, Nat.le_refl _⟩
                | true =>
                  rw [hpx] at HV
                  have HC := HC0
                  rw [hpx] at HC
                  cases hfi : g m with
                  | true =>
                    rw [hfi] at HV
                    have HVE : Hid (advF x s g (m + 1) = true) := by
                      show _ = _
                      rw [HV.out]
                      exact Bool.or_true _
                    refine wp_region_at 28 #[false, false, false, false, false, false, false, false, false, false, false, false, false, false, false, false, false, false, false, false, false, false, false, false, false, false, false, false] rfl rfl (by kernel_rfl) ?_
                    refine wpAny_at (i := 0) (v := .int .i64 ((m : Int) + 1)) (some 51) rfl rfl (by kernel_rfl) (by kernel_rfl) (by kernel_rfl) (fun _ _ _ h => h) (by kernel_rfl) (fun _ => ex_move _ _ rfl (by kernel_rfl)) ?_
                    simp only [Act.put, List.setIfInBounds_toArray, List.set_cons_zero, List.set_cons_succ]
                    refine wpAny_at (i := 1) (v := .bool true) (some 52) rfl rfl (by kernel_rfl) (by kernel_rfl) (by kernel_rfl) (fun _ _ _ h => h) (by kernel_rfl) (fun _ => ex_binOp .gtr 3 _ _ _ (.int .i64 ((m : Int) + 1)) (.int .i64 0) _ rfl (by kernel_rfl) (by kernel_rfl) (HGT.out _)) ?_
                    simp only [Act.put, List.setIfInBounds_toArray, List.set_cons_zero, List.set_cons_succ]
                    refine wpAny_at (i := 2) (v := .bool true) (some 53) rfl rfl (by kernel_rfl) (by kernel_rfl) (by kernel_rfl) (fun _ _ _ h => h) (by kernel_rfl) (fun _ => ex_move _ _ rfl (by kernel_rfl)) ?_
                    simp only [Act.put, List.setIfInBounds_toArray, List.set_cons_zero, List.set_cons_succ]
                    refine wpAny_at (i := 4) (v := .string s) (some 55) rfl rfl (by kernel_rfl) (by kernel_rfl) (by kernel_rfl) (fun _ _ _ h => h) (by kernel_rfl) (fun _ => ex_move _ _ rfl (by kernel_rfl)) ?_
                    simp only [Act.put, List.setIfInBounds_toArray, List.set_cons_zero, List.set_cons_succ]
                    refine wpAny_at (i := 5) (v := .int .i64 ((m : Int) + 1)) (some 56) rfl rfl (by kernel_rfl) (by kernel_rfl) (by kernel_rfl) (fun _ _ _ h => h) (by kernel_rfl) (fun _ => ex_move _ _ rfl (by kernel_rfl)) ?_
                    simp only [Act.put, List.setIfInBounds_toArray, List.set_cons_zero, List.set_cons_succ]
                    refine wpAny_at (i := 6) (v := .int .i64 m) (some 57) rfl rfl (by kernel_rfl) (by kernel_rfl) (by kernel_rfl) (fun _ _ _ h => h) (by kernel_rfl) (fun _ => ex_binOp .sub 3 _ _ _ (.int .i64 ((m : Int) + 1)) (.int .i64 1) _ rfl (by kernel_rfl) (by kernel_rfl) (HSB.out _)) ?_
                    simp only [Act.put, List.setIfInBounds_toArray, List.set_cons_zero, List.set_cons_succ]
                    refine wpAny_at (i := 7) (v := .int .u8 (s[m].toNat)) (some 58) rfl rfl (by kernel_rfl) (by kernel_rfl) (by kernel_rfl) (fun _ _ _ h => h) (by kernel_rfl) (fun _ => ex_index 9 _ _ (.string s) (.int .i64 m) _ rfl (by kernel_rfl) (by kernel_rfl) (HIX.out _)) ?_
                    simp only [Act.put, List.setIfInBounds_toArray, List.set_cons_zero, List.set_cons_succ]
                    refine wpAny_val 3 (some 54) (.agg (atC x).toArray) (by kernel_rfl) rfl rfl (by kernel_rfl) (ex_load 26 _ (.pointer (some ⟨q, 0, none⟩)) _ rfl (by kernel_rfl) (HLD.out)) ?_
                    simp only [Act.put, List.setIfInBounds_toArray, List.set_cons_zero, List.set_cons_succ]
                    refine wpAny_call 8 (some 59) (by kernel_rfl) rfl rfl (by kernel_rfl) 82 (#[.agg (atC x).toArray, .int .u8 (s[m].toNat)]) (by go_simp) (HC.out _) ?_
                    rintro e w7 ⟨rfl, hb7⟩
                    refine ⟨_, rfl, ?_⟩
                    have qa := (HG4.out.of_block (hb7.block _ HG4.out.lt)).cell (i := m) (by omega)
                    have qn := (HR4.out.of_block (hb7.block _ HR4.out.lt)).cell (i := m) (by omega)
                    have qy := (HA4.out.keep (hb7.block _ hq4)).many
                    rw [if_neg (by omega), if_pos (by omega)] at qn
                    rw [hfi] at qa
                    have rf7 := (HR4.out.of_block (hb7.block _ HR4.out.lt)).frozen (m + 1)
                    have r7 := (HR4.out.of_block (hb7.block _ HR4.out.lt)).cell (i := m + 1) hil
                    rw [if_pos rfl] at r7
                    change wpAny _ _ _ _ _ _ (Act.put _ (some 59) _) _
                    simp only [Act.put, List.setIfInBounds_toArray, List.set_cons_zero, List.set_cons_succ]
                    refine wpAny_at (i := 9) (v := .bool true) (some 60) rfl rfl (by kernel_rfl) (by kernel_rfl) (by kernel_rfl) (fun _ _ _ h => h) (by kernel_rfl) (fun _ => ex_pick _ _ _ true (.bool true) (.bool false) rfl (by kernel_rfl) (by kernel_rfl) (by kernel_rfl)) ?_
                    simp only [Act.put, List.setIfInBounds_toArray, List.set_cons_zero, List.set_cons_succ]
                    refine wpAny_at (i := 10) (v := .bool true) (some 61) rfl rfl (by kernel_rfl) (by kernel_rfl) (by kernel_rfl) (fun _ _ _ h => h) (by kernel_rfl) (fun _ => ex_move _ _ rfl (by kernel_rfl)) ?_
                    simp only [Act.put, List.setIfInBounds_toArray, List.set_cons_zero, List.set_cons_succ]
                    refine wpAny_at (i := 11) (v := .slice (some ⟨b, 0, none⟩) (s.size + 1) (s.size + 1)) (some 62) rfl rfl (by kernel_rfl) (by kernel_rfl) (by kernel_rfl) (fun _ _ _ h => h) (by kernel_rfl) (fun _ => ex_move _ _ rfl (by kernel_rfl)) ?_
                    simp only [Act.put, List.setIfInBounds_toArray, List.set_cons_zero, List.set_cons_succ]
                    refine wpAny_at (i := 12) (v := .int .i64 ((m : Int) + 1)) (some 63) rfl rfl (by kernel_rfl) (by kernel_rfl) (by kernel_rfl) (fun _ _ _ h => h) (by kernel_rfl) (fun _ => ex_move _ _ rfl (by kernel_rfl)) ?_
                    simp only [Act.put, List.setIfInBounds_toArray, List.set_cons_zero, List.set_cons_succ]
                    refine wpAny_at (i := 13) (v := .int .i64 m) (some 64) rfl rfl (by kernel_rfl) (by kernel_rfl) (by kernel_rfl) (fun _ _ _ h => h) (by kernel_rfl) (fun _ => ex_binOp .sub 3 _ _ _ (.int .i64 ((m : Int) + 1)) (.int .i64 1) _ rfl (by kernel_rfl) (by kernel_rfl) (HSB.out _)) ?_
                    simp only [Act.put, List.setIfInBounds_toArray, List.set_cons_zero, List.set_cons_succ]
                    refine wpAny_at (i := 14) (v := .pointer (some ⟨b, m, none⟩)) (some 65) rfl rfl (by kernel_rfl) (by kernel_rfl) (by kernel_rfl) (fun _ _ _ h => h) (by kernel_rfl) (fun _ => ex_indexAddr 86 _ _ (.slice (some ⟨b, 0, none⟩) (s.size + 1) (s.size + 1)) (.int .i64 m) _ rfl (by kernel_rfl) (by kernel_rfl) (HIB.out _)) ?_
                    simp only [Act.put, List.setIfInBounds_toArray, List.set_cons_zero, List.set_cons_succ]
                    refine wpAny_val 15 (some 66) (.bool true) (by kernel_rfl) rfl rfl (by kernel_rfl) (ex_load 4 _ (.pointer (some ⟨b, m, none⟩)) _ rfl (by kernel_rfl) (by go_simp)) ?_
                    simp only [Act.put, List.setIfInBounds_toArray, List.set_cons_zero, List.set_cons_succ]
                    refine wpAny_at (i := 16) (v := .bool true) (some 67) rfl rfl (by kernel_rfl) (by kernel_rfl) (by kernel_rfl) (fun _ _ _ h => h) (by kernel_rfl) (fun _ => ex_move _ _ rfl (by kernel_rfl)) ?_
                    simp only [Act.put, List.setIfInBounds_toArray, List.set_cons_zero, List.set_cons_succ]
                    refine wpAny_skip 17 (some 68) rfl rfl (by kernel_rfl) (by kernel_rfl) (by kernel_rfl) (fun _ _ _ h => h) (by kernel_rfl) ?_
                    simp only [Act.put, List.setIfInBounds_toArray, List.set_cons_zero, List.set_cons_succ]
                    refine wpAny_skip 18 (some 69) rfl rfl (by kernel_rfl) (by kernel_rfl) (by kernel_rfl) (fun _ _ _ h => h) (by kernel_rfl) ?_
                    simp only [Act.put, List.setIfInBounds_toArray, List.set_cons_zero, List.set_cons_succ]
                    refine wpAny_skip 19 (some 70) rfl rfl (by kernel_rfl) (by kernel_rfl) (by kernel_rfl) (fun _ _ _ h => h) (by kernel_rfl) ?_
                    simp only [Act.put, List.setIfInBounds_toArray, List.set_cons_zero, List.set_cons_succ]
                    refine wpAny_skip 20 (some 71) rfl rfl (by kernel_rfl) (by kernel_rfl) (by kernel_rfl) (fun _ _ _ h => h) (by kernel_rfl) ?_
                    simp only [Act.put, List.setIfInBounds_toArray, List.set_cons_zero, List.set_cons_succ]
                    refine wpAny_skip 21 (some 72) rfl rfl (by kernel_rfl) (by kernel_rfl) (by kernel_rfl) (fun _ _ _ h => h) (by kernel_rfl) ?_
                    simp only [Act.put, List.setIfInBounds_toArray, List.set_cons_zero, List.set_cons_succ]
                    refine wpAny_skip 22 (some 73) rfl rfl (by kernel_rfl) (by kernel_rfl) (by kernel_rfl) (fun _ _ _ h => h) (by kernel_rfl) ?_
                    simp only [Act.put, List.setIfInBounds_toArray, List.set_cons_zero, List.set_cons_succ]
                    refine wpAny_skip 23 (some 74) rfl rfl (by kernel_rfl) (by kernel_rfl) (by kernel_rfl) (fun _ _ _ h => h) (by kernel_rfl) ?_
                    simp only [Act.put, List.setIfInBounds_toArray, List.set_cons_zero, List.set_cons_succ]
                    refine wpAny_skip 24 (some 75) rfl rfl (by kernel_rfl) (by kernel_rfl) (by kernel_rfl) (fun _ _ _ h => h) (by kernel_rfl) ?_
                    simp only [Act.put, List.setIfInBounds_toArray, List.set_cons_zero, List.set_cons_succ]
                    refine wpAny_skip 25 (some 76) rfl rfl (by kernel_rfl) (by kernel_rfl) (by kernel_rfl) (fun _ _ _ h => h) (by kernel_rfl) ?_
                    simp only [Act.put, List.setIfInBounds_toArray, List.set_cons_zero, List.set_cons_succ]
                    refine wpAny_at (i := 26) (v := .bool true) (some 77) rfl rfl (by kernel_rfl) (by kernel_rfl) (by kernel_rfl) (fun _ _ _ h => h) (by kernel_rfl) (fun _ => ex_pick _ _ _ true (.bool true) (undef) rfl (by kernel_rfl) (by kernel_rfl) (by kernel_rfl)) ?_
                    simp only [Act.put, List.setIfInBounds_toArray, List.set_cons_zero, List.set_cons_succ]
                    refine wpAny_at (i := 27) (v := .bool true) (some 78) rfl rfl (by kernel_rfl) (by kernel_rfl) (by kernel_rfl) (fun _ _ _ h => h) (by kernel_rfl) (fun _ => ex_pick _ _ _ true (.bool true) (.bool false) rfl (by kernel_rfl) (by kernel_rfl) (by kernel_rfl)) ?_
                    simp only [Act.put, List.setIfInBounds_toArray, List.set_cons_zero, List.set_cons_succ]
                    refine wpAny_done (by kernel_rfl) ?_ _
                    go_wp2_with fail
                    have HR7 := Lib.hid (HR4.out.of_block (hb7.block _ HR4.out.lt))
                    have HG7 := Lib.hid (HG4.out.of_block (hb7.block _ HG4.out.lt))
                    have HA7 := Lib.hid (HA4.out.keep (hb7.block _ hq4))
                    have HB7 := Lib.hid (HB4.out.trans (hb7.mono HB4.out.size))
                    have HRE : Hid ((w7.setCell ⟨N, m + 1, none⟩ (.bool true)).rowIs N 4 (s.size + 1) (fun j => .bool (if j < m + 1 + 1 then advF x s g j else false))) := (HR7.out.set (m + 1) (.bool true)).congr fun j hj => by
                      by_cases h : j = m + 1
                      · rw [if_pos h, if_pos (by omega), h, HVE.out]
                      · rw [if_neg h, if_neg h]
                        by_cases h2 : j < m + 1
                        · rw [if_pos h2, if_pos (by omega)]
                        · rw [if_neg h2, if_neg (by omega)]
                    go_roundg (s.size + 1 - (m + 1 + 1))
                    case measure => omega
                    case rel => exact ⟨m + 1 + 1, by omega, by go_num, HRE.out, HG7.out.of_block (Below.heap_setCell _ _ _ _ (show b ≠ N by omega)), HA7.out.keep (Below.heap_setCell _ _ _ _ (show q ≠ N by omega)), HB7.out.setCell (p := ⟨N, m + 1, none⟩) (show w.heap.size ≤ N by omega) _, Nat.le_refl _⟩
                  | false =>
                    rw [hfi] at HV
                    cases hmm : x.many with
                    | false =>
                      rw [hmm] at HV
                      have HVE : Hid (advF x s g (m + 1) = false) := by
                        show _ = _
                        rw [HV.out]
                        exact Bool.or_false _
                      refine wp_region_at 28 #[false, false, false, false, false, false, false, false, false, false, false, false, false, false, false, false, false, false, false, false, false, false, false, false, false, false, false, false] rfl rfl (by kernel_rfl) ?_
                      refine wpAny_at (i := 0) (v := .int .i64 ((m : Int) + 1)) (some 51) rfl rfl (by kernel_rfl) (by kernel_rfl) (by kernel_rfl) (fun _ _ _ h => h) (by kernel_rfl) (fun _ => ex_move _ _ rfl (by kernel_rfl)) ?_
                      simp only [Act.put, List.setIfInBounds_toArray, List.set_cons_zero, List.set_cons_succ]
                      refine wpAny_at (i := 1) (v := .bool true) (some 52) rfl rfl (by kernel_rfl) (by kernel_rfl) (by kernel_rfl) (fun _ _ _ h => h) (by kernel_rfl) (fun _ => ex_binOp .gtr 3 _ _ _ (.int .i64 ((m : Int) + 1)) (.int .i64 0) _ rfl (by kernel_rfl) (by kernel_rfl) (HGT.out _)) ?_
                      simp only [Act.put, List.setIfInBounds_toArray, List.set_cons_zero, List.set_cons_succ]
                      refine wpAny_at (i := 2) (v := .bool true) (some 53) rfl rfl (by kernel_rfl) (by kernel_rfl) (by kernel_rfl) (fun _ _ _ h => h) (by kernel_rfl) (fun _ => ex_move _ _ rfl (by kernel_rfl)) ?_
                      simp only [Act.put, List.setIfInBounds_toArray, List.set_cons_zero, List.set_cons_succ]
                      refine wpAny_at (i := 4) (v := .string s) (some 55) rfl rfl (by kernel_rfl) (by kernel_rfl) (by kernel_rfl) (fun _ _ _ h => h) (by kernel_rfl) (fun _ => ex_move _ _ rfl (by kernel_rfl)) ?_
                      simp only [Act.put, List.setIfInBounds_toArray, List.set_cons_zero, List.set_cons_succ]
                      refine wpAny_at (i := 5) (v := .int .i64 ((m : Int) + 1)) (some 56) rfl rfl (by kernel_rfl) (by kernel_rfl) (by kernel_rfl) (fun _ _ _ h => h) (by kernel_rfl) (fun _ => ex_move _ _ rfl (by kernel_rfl)) ?_
                      simp only [Act.put, List.setIfInBounds_toArray, List.set_cons_zero, List.set_cons_succ]
                      refine wpAny_at (i := 6) (v := .int .i64 m) (some 57) rfl rfl (by kernel_rfl) (by kernel_rfl) (by kernel_rfl) (fun _ _ _ h => h) (by kernel_rfl) (fun _ => ex_binOp .sub 3 _ _ _ (.int .i64 ((m : Int) + 1)) (.int .i64 1) _ rfl (by kernel_rfl) (by kernel_rfl) (HSB.out _)) ?_
                      simp only [Act.put, List.setIfInBounds_toArray, List.set_cons_zero, List.set_cons_succ]
                      refine wpAny_at (i := 7) (v := .int .u8 (s[m].toNat)) (some 58) rfl rfl (by kernel_rfl) (by kernel_rfl) (by kernel_rfl) (fun _ _ _ h => h) (by kernel_rfl) (fun _ => ex_index 9 _ _ (.string s) (.int .i64 m) _ rfl (by kernel_rfl) (by kernel_rfl) (HIX.out _)) ?_
                      simp only [Act.put, List.setIfInBounds_toArray, List.set_cons_zero, List.set_cons_succ]
                      refine wpAny_val 3 (some 54) (.agg (atC x).toArray) (by kernel_rfl) rfl rfl (by kernel_rfl) (ex_load 26 _ (.pointer (some ⟨q, 0, none⟩)) _ rfl (by kernel_rfl) (HLD.out)) ?_
                      simp only [Act.put, List.setIfInBounds_toArray, List.set_cons_zero, List.set_cons_succ]
                      refine wpAny_call 8 (some 59) (by kernel_rfl) rfl rfl (by kernel_rfl) 82 (#[.agg (atC x).toArray, .int .u8 (s[m].toNat)]) (by go_simp) (HC.out _) ?_
                      rintro e w7 ⟨rfl, hb7⟩
                      refine ⟨_, rfl, ?_⟩
                      have qa := (HG4.out.of_block (hb7.block _ HG4.out.lt)).cell (i := m) (by omega)
                      have qn := (HR4.out.of_block (hb7.block _ HR4.out.lt)).cell (i := m) (by omega)
                      have qy := (HA4.out.keep (hb7.block _ hq4)).many
                      rw [if_neg (by omega), if_pos (by omega)] at qn
                      rw [hfi] at qa
                      rw [hmm] at qy
                      have rf7 := (HR4.out.of_block (hb7.block _ HR4.out.lt)).frozen (m + 1)
                      have r7 := (HR4.out.of_block (hb7.block _ HR4.out.lt)).cell (i := m + 1) hil
                      rw [if_pos rfl] at r7
                      change wpAny _ _ _ _ _ _ (Act.put _ (some 59) _) _
                      simp only [Act.put, List.setIfInBounds_toArray, List.set_cons_zero, List.set_cons_succ]
                      refine wpAny_at (i := 9) (v := .bool true) (some 60) rfl rfl (by kernel_rfl) (by kernel_rfl) (by kernel_rfl) (fun _ _ _ h => h) (by kernel_rfl) (fun _ => ex_pick _ _ _ true (.bool true) (.bool false) rfl (by kernel_rfl) (by kernel_rfl) (by kernel_rfl)) ?_
                      simp only [Act.put, List.setIfInBounds_toArray, List.set_cons_zero, List.set_cons_succ]
                      refine wpAny_at (i := 10) (v := .bool true) (some 61) rfl rfl (by kernel_rfl) (by kernel_rfl) (by kernel_rfl) (fun _ _ _ h => h) (by kernel_rfl) (fun _ => ex_move _ _ rfl (by kernel_rfl)) ?_
                      simp only [Act.put, List.setIfInBounds_toArray, List.set_cons_zero, List.set_cons_succ]
                      refine wpAny_at (i := 11) (v := .slice (some ⟨b, 0, none⟩) (s.size + 1) (s.size + 1)) (some 62) rfl rfl (by kernel_rfl) (by kernel_rfl) (by kernel_rfl) (fun _ _ _ h => h) (by kernel_rfl) (fun _ => ex_move _ _ rfl (by kernel_rfl)) ?_
                      simp only [Act.put, List.setIfInBounds_toArray, List.set_cons_zero, List.set_cons_succ]
                      refine wpAny_at (i := 12) (v := .int .i64 ((m : Int) + 1)) (some 63) rfl rfl (by kernel_rfl) (by kernel_rfl) (by kernel_rfl) (fun _ _ _ h => h) (by kernel_rfl) (fun _ => ex_move _ _ rfl (by kernel_rfl)) ?_
                      simp only [Act.put, List.setIfInBounds_toArray, List.set_cons_zero, List.set_cons_succ]
                      refine wpAny_at (i := 13) (v := .int .i64 m) (some 64) rfl rfl (by kernel_rfl) (by kernel_rfl) (by kernel_rfl) (fun _ _ _ h => h) (by kernel_rfl) (fun _ => ex_binOp .sub 3 _ _ _ (.int .i64 ((m : Int) + 1)) (.int .i64 1) _ rfl (by kernel_rfl) (by kernel_rfl) (HSB.out _)) ?_
                      simp only [Act.put, List.setIfInBounds_toArray, List.set_cons_zero, List.set_cons_succ]
                      refine wpAny_at (i := 14) (v := .pointer (some ⟨b, m, none⟩)) (some 65) rfl rfl (by kernel_rfl) (by kernel_rfl) (by kernel_rfl) (fun _ _ _ h => h) (by kernel_rfl) (fun _ => ex_indexAddr 86 _ _ (.slice (some ⟨b, 0, none⟩) (s.size + 1) (s.size + 1)) (.int .i64 m) _ rfl (by kernel_rfl) (by kernel_rfl) (HIB.out _)) ?_
                      simp only [Act.put, List.setIfInBounds_toArray, List.set_cons_zero, List.set_cons_succ]
                      refine wpAny_val 15 (some 66) (.bool false) (by kernel_rfl) rfl rfl (by kernel_rfl) (ex_load 4 _ (.pointer (some ⟨b, m, none⟩)) _ rfl (by kernel_rfl) (by go_simp)) ?_
                      simp only [Act.put, List.setIfInBounds_toArray, List.set_cons_zero, List.set_cons_succ]
                      refine wpAny_at (i := 16) (v := .bool false) (some 67) rfl rfl (by kernel_rfl) (by kernel_rfl) (by kernel_rfl) (fun _ _ _ h => h) (by kernel_rfl) (fun _ => ex_move _ _ rfl (by kernel_rfl)) ?_
                      simp only [Act.put, List.setIfInBounds_toArray, List.set_cons_zero, List.set_cons_succ]
                      refine wpAny_at (i := 17) (v := .pointer (some ⟨q, 33, none⟩)) (some 68) rfl rfl (by kernel_rfl) (by kernel_rfl) (by kernel_rfl) (fun _ _ _ h => h) (by kernel_rfl) (fun _ => ex_fieldAddr 26 _ 2 (.pointer (some ⟨q, 0, none⟩)) _ rfl (by kernel_rfl) (by go_simp)) ?_
                      simp only [Act.put, List.setIfInBounds_toArray, List.set_cons_zero, List.set_cons_succ]
                      refine wpAny_val 18 (some 69) (.bool false) (by kernel_rfl) rfl rfl (by kernel_rfl) (ex_load 4 _ (.pointer (some ⟨q, 33, none⟩)) _ rfl (by kernel_rfl) (by go_simp)) ?_
                      simp only [Act.put, List.setIfInBounds_toArray, List.set_cons_zero, List.set_cons_succ]
                      refine wpAny_at (i := 19) (v := .bool false) (some 70) rfl rfl (by kernel_rfl) (by kernel_rfl) (by kernel_rfl) (fun _ _ _ h => h) (by kernel_rfl) (fun _ => ex_move _ _ rfl (by kernel_rfl)) ?_
                      simp only [Act.put, List.setIfInBounds_toArray, List.set_cons_zero, List.set_cons_succ]
                      refine wpAny_skip 20 (some 71) rfl rfl (by kernel_rfl) (by kernel_rfl) (by kernel_rfl) (fun _ _ _ h => h) (by kernel_rfl) ?_
                      simp only [Act.put, List.setIfInBounds_toArray, List.set_cons_zero, List.set_cons_succ]
                      refine wpAny_skip 21 (some 72) rfl rfl (by kernel_rfl) (by kernel_rfl) (by kernel_rfl) (fun _ _ _ h => h) (by kernel_rfl) ?_
                      simp only [Act.put, List.setIfInBounds_toArray, List.set_cons_zero, List.set_cons_succ]
                      refine wpAny_skip 22 (some 73) rfl rfl (by kernel_rfl) (by kernel_rfl) (by kernel_rfl) (fun _ _ _ h => h) (by kernel_rfl) ?_
                      simp only [Act.put, List.setIfInBounds_toArray, List.set_cons_zero, List.set_cons_succ]
                      refine wpAny_skip 23 (some 74) rfl rfl (by kernel_rfl) (by kernel_rfl) (by kernel_rfl) (fun _ _ _ h => h) (by kernel_rfl) ?_
                      simp only [Act.put, List.setIfInBounds_toArray, List.set_cons_zero, List.set_cons_succ]
                      refine wpAny_skip 24 (some 75) rfl rfl (by kernel_rfl) (by kernel_rfl) (by kernel_rfl) (fun _ _ _ h => h) (by kernel_rfl) ?_
                      simp only [Act.put, List.setIfInBounds_toArray, List.set_cons_zero, List.set_cons_succ]
                      refine wpAny_at (i := 25) (v := .bool false) (some 76) rfl rfl (by kernel_rfl) (by kernel_rfl) (by kernel_rfl) (fun _ _ _ h => h) (by kernel_rfl) (fun _ => ex_pick _ _ _ false (undef) (.bool false) rfl (by kernel_rfl) (by kernel_rfl) (by kernel_rfl)) ?_
                      simp only [Act.put, List.setIfInBounds_toArray, List.set_cons_zero, List.set_cons_succ]
                      refine wpAny_at (i := 26) (v := .bool false) (some 77) rfl rfl (by kernel_rfl) (by kernel_rfl) (by kernel_rfl) (fun _ _ _ h => h) (by kernel_rfl) (fun _ => ex_pick _ _ _ false (.bool true) (.bool false) rfl (by kernel_rfl) (by kernel_rfl) (by kernel_rfl)) ?_
                      simp only [Act.put, List.setIfInBounds_toArray, List.set_cons_zero, List.set_cons_succ]
                      refine wpAny_at (i := 27) (v := .bool false) (some 78) rfl rfl (by kernel_rfl) (by kernel_rfl) (by kernel_rfl) (fun _ _ _ h => h) (by kernel_rfl) (fun _ => ex_pick _ _ _ true (.bool false) (.bool false) rfl (by kernel_rfl) (by kernel_rfl) (by kernel_rfl)) ?_
                      simp only [Act.put, List.setIfInBounds_toArray, List.set_cons_zero, List.set_cons_succ]
                      refine wpAny_done (by kernel_rfl) ?_ _
                      go_wp2_with fail
                      have HR7 := Lib.hid (HR4.out.of_block (hb7.block _ HR4.out.lt))
                      have HG7 := Lib.hid (HG4.out.of_block (hb7.block _ HG4.out.lt))
                      have HA7 := Lib.hid (HA4.out.keep (hb7.block _ hq4))
                      have HB7 := Lib.hid (HB4.out.trans (hb7.mono HB4.out.size))
                      have HRE : Hid (w7.rowIs N 4 (s.size + 1) (fun j => .bool (if j < m + 1 + 1 then advF x s g j else false))) := HR7.out.congr fun j hj => by
                        by_cases h : j = m + 1
                        · rw [if_pos h, if_pos (by omega), h, HVE.out]
                        · rw [if_neg h]
                          by_cases h2 : j < m + 1
                          · rw [if_pos h2, if_pos (by omega)]
                          · rw [if_neg h2, if_neg (by omega)]
                      go_roundg (s.size + 1 - (m + 1 + 1))
                      case measure => omega
                      case rel => exact ⟨m + 1 + 1, by omega, by go_num, HRE.out, HG7.out, HA7.out, HB7.out, Nat.le_refl _⟩
                    | true =>
                      rw [hmm] at HV
                      cases hni : advF x s g m with
                      | true =>
                        rw [hni] at HV
                        have HVE : Hid (advF x s g (m + 1) = true) := by
                          show _ = _
                          rw [HV.out]
                          exact Bool.or_true _
                        refine wp_region_at 28 #[false, false, false, false, false, false, false, false, false, false, false, false, false, false, false, false, false, false, false, false, false, false, false, false, false, false, false, false] rfl rfl (by kernel_rfl) ?_
                        refine wpAny_at (i := 0) (v := .int .i64 ((m : Int) + 1)) (some 51) rfl rfl (by kernel_rfl) (by kernel_rfl) (by kernel_rfl) (fun _ _ _ h => h) (by kernel_rfl) (fun _ => ex_move _ _ rfl (by kernel_rfl)) ?_
                        simp only [Act.put, List.setIfInBounds_toArray, List.set_cons_zero, List.set_cons_succ]
                        refine wpAny_at (i := 1) (v := .bool true) (some 52) rfl rfl (by kernel_rfl) (by kernel_rfl) (by kernel_rfl) (fun _ _ _ h => h) (by kernel_rfl) (fun _ => ex_binOp .gtr 3 _ _ _ (.int .i64 ((m : Int) + 1)) (.int .i64 0) _ rfl (by kernel_rfl) (by kernel_rfl) (HGT.out _)) ?_
                        simp only [Act.put, List.setIfInBounds_toArray, List.set_cons_zero, List.set_cons_succ]
                        refine wpAny_at (i := 2) (v := .bool true) (some 53) rfl rfl (by kernel_rfl) (by kernel_rfl) (by kernel_rfl) (fun _ _ _ h => h) (by kernel_rfl) (fun _ => ex_move _ _ rfl (by kernel_rfl)) ?_
                        simp only [Act.put, List.setIfInBounds_toArray, List.set_cons_zero, List.set_cons_succ]
                        refine wpAny_at (i := 4) (v := .string s) (some 55) rfl rfl (by kernel_rfl) (by kernel_rfl) (by kernel_rfl) (fun _ _ _ h => h) (by kernel_rfl) (fun _ => ex_move _ _ rfl (by kernel_rfl)) ?_
                        simp only [Act.put, List.setIfInBounds_toArray, List.set_cons_zero, List.set_cons_succ]
                        refine wpAny_at (i := 5) (v := .int .i64 ((m : Int) + 1)) (some 56) rfl rfl (by kernel_rfl) (by kernel_rfl) (by kernel_rfl) (fun _ _ _ h => h) (by kernel_rfl) (fun _ => ex_move _ _ rfl (by kernel_rfl)) ?_
                        simp only [Act.put, List.setIfInBounds_toArray, List.set_cons_zero, List.set_cons_succ]
                        refine wpAny_at (i := 6) (v := .int .i64 m) (some 57) rfl rfl (by kernel_rfl) (by kernel_rfl) (by kernel_rfl) (fun _ _ _ h => h) (by kernel_rfl) (fun _ => ex_binOp .sub 3 _ _ _ (.int .i64 ((m : Int) + 1)) (.int .i64 1) _ rfl (by kernel_rfl) (by kernel_rfl) (HSB.out _)) ?_
                        simp only [Act.put, List.setIfInBounds_toArray, List.set_cons_zero, List.set_cons_succ]
                        refine wpAny_at (i := 7) (v := .int .u8 (s[m].toNat)) (some 58) rfl rfl (by kernel_rfl) (by kernel_rfl) (by kernel_rfl) (fun _ _ _ h => h) (by kernel_rfl) (fun _ => ex_index 9 _ _ (.string s) (.int .i64 m) _ rfl (by kernel_rfl) (by kernel_rfl) (HIX.out _)) ?_
                        simp only [Act.put, List.setIfInBounds_toArray, List.set_cons_zero, List.set_cons_succ]
                        refine wpAny_val 3 (some 54) (.agg (atC x).toArray) (by kernel_rfl) rfl rfl (by kernel_rfl) (ex_load 26 _ (.pointer (some ⟨q, 0, none⟩)) _ rfl (by kernel_rfl) (HLD.out)) ?_
                        simp only [Act.put, List.setIfInBounds_toArray, List.set_cons_zero, List.set_cons_succ]
                        refine wpAny_call 8 (some 59) (by kernel_rfl) rfl rfl (by kernel_rfl) 82 (#[.agg (atC x).toArray, .int .u8 (s[m].toNat)]) (by go_simp) (HC.out _) ?_
                        rintro e w7 ⟨rfl, hb7⟩
                        refine ⟨_, rfl, ?_⟩
                        have qa := (HG4.out.of_block (hb7.block _ HG4.out.lt)).cell (i := m) (by omega)
                        have qn := (HR4.out.of_block (hb7.block _ HR4.out.lt)).cell (i := m) (by omega)
                        have qy := (HA4.out.keep (hb7.block _ hq4)).many
                        rw [if_neg (by omega), if_pos (by omega)] at qn
                        rw [hfi] at qa
                        rw [hmm] at qy
                        rw [hni] at qn
                        have rf7 := (HR4.out.of_block (hb7.block _ HR4.out.lt)).frozen (m + 1)
                        have r7 := (HR4.out.of_block (hb7.block _ HR4.out.lt)).cell (i := m + 1) hil
                        rw [if_pos rfl] at r7
                        change wpAny _ _ _ _ _ _ (Act.put _ (some 59) _) _
                        simp only [Act.put, List.setIfInBounds_toArray, List.set_cons_zero, List.set_cons_succ]
                        refine wpAny_at (i := 9) (v := .bool true) (some 60) rfl rfl (by kernel_rfl) (by kernel_rfl) (by kernel_rfl) (fun _ _ _ h => h) (by kernel_rfl) (fun _ => ex_pick _ _ _ true (.bool true) (.bool false) rfl (by kernel_rfl) (by kernel_rfl) (by kernel_rfl)) ?_
                        simp only [Act.put, List.setIfInBounds_toArray, List.set_cons_zero, List.set_cons_succ]
                        refine wpAny_at (i := 10) (v := .bool true) (some 61) rfl rfl (by kernel_rfl) (by kernel_rfl) (by kernel_rfl) (fun _ _ _ h => h) (by kernel_rfl) (fun _ => ex_move _ _ rfl (by kernel_rfl)) ?_
                        simp only [Act.put, List.setIfInBounds_toArray, List.set_cons_zero, List.set_cons_succ]
                        refine wpAny_at (i := 11) (v := .slice (some ⟨b, 0, none⟩) (s.size + 1) (s.size + 1)) (some 62) rfl rfl (by kernel_rfl) (by kernel_rfl) (by kernel_rfl) (fun _ _ _ h => h) (by kernel_rfl) (fun _ => ex_move _ _ rfl (by kernel_rfl)) ?_
                        simp only [Act.put, List.setIfInBounds_toArray, List.set_cons_zero, List.set_cons_succ]
                        refine wpAny_at (i := 12) (v := .int .i64 ((m : Int) + 1)) (some 63) rfl rfl (by kernel_rfl) (by kernel_rfl) (by kernel_rfl) (fun _ _ _ h => h) (by kernel_rfl) (fun _ => ex_move _ _ rfl (by kernel_rfl)) ?_
                        simp only [Act.put, List.setIfInBounds_toArray, List.set_cons_zero, List.set_cons_succ]
                        refine wpAny_at (i := 13) (v := .int .i64 m) (some 64) rfl rfl (by kernel_rfl) (by kernel_rfl) (by kernel_rfl) (fun _ _ _ h => h) (by kernel_rfl) (fun _ => ex_binOp .sub 3 _ _ _ (.int .i64 ((m : Int) + 1)) (.int .i64 1) _ rfl (by kernel_rfl) (by kernel_rfl) (HSB.out _)) ?_
                        simp only [Act.put, List.setIfInBounds_toArray, List.set_cons_zero, List.set_cons_succ]
                        refine wpAny_at (i := 14) (v := .pointer (some ⟨b, m, none⟩)) (some 65) rfl rfl (by kernel_rfl) (by kernel_rfl) (by kernel_rfl) (fun _ _ _ h => h) (by kernel_rfl) (fun _ => ex_indexAddr 86 _ _ (.slice (some ⟨b, 0, none⟩) (s.size + 1) (s.size + 1)) (.int .i64 m) _ rfl (by kernel_rfl) (by kernel_rfl) (HIB.out _)) ?_
                        simp only [Act.put, List.setIfInBounds_toArray, List.set_cons_zero, List.set_cons_succ]
                        refine wpAny_val 15 (some 66) (.bool false) (by kernel_rfl) rfl rfl (by kernel_rfl) (ex_load 4 _ (.pointer (some ⟨b, m, none⟩)) _ rfl (by kernel_rfl) (by go_simp)) ?_
                        simp only [Act.put, List.setIfInBounds_toArray, List.set_cons_zero, List.set_cons_succ]
                        refine wpAny_at (i := 16) (v := .bool false) (some 67) rfl rfl (by kernel_rfl) (by kernel_rfl) (by kernel_rfl) (fun _ _ _ h => h) (by kernel_rfl) (fun _ => ex_move _ _ rfl (by kernel_rfl)) ?_
                        simp only [Act.put, List.setIfInBounds_toArray, List.set_cons_zero, List.set_cons_succ]
                        refine wpAny_at (i := 17) (v := .pointer (some ⟨q, 33, none⟩)) (some 68) rfl rfl (by kernel_rfl) (by kernel_rfl) (by kernel_rfl) (fun _ _ _ h => h) (by kernel_rfl) (fun _ => ex_fieldAddr 26 _ 2 (.pointer (some ⟨q, 0, none⟩)) _ rfl (by kernel_rfl) (by go_simp)) ?_
                        simp only [Act.put, List.setIfInBounds_toArray, List.set_cons_zero, List.set_cons_succ]
                        refine wpAny_val 18 (some 69) (.bool true) (by kernel_rfl) rfl rfl (by kernel_rfl) (ex_load 4 _ (.pointer (some ⟨q, 33, none⟩)) _ rfl (by kernel_rfl) (by go_simp)) ?_
                        simp only [Act.put, List.setIfInBounds_toArray, List.set_cons_zero, List.set_cons_succ]
                        refine wpAny_at (i := 19) (v := .bool true) (some 70) rfl rfl (by kernel_rfl) (by kernel_rfl) (by kernel_rfl) (fun _ _ _ h => h) (by kernel_rfl) (fun _ => ex_move _ _ rfl (by kernel_rfl)) ?_
                        simp only [Act.put, List.setIfInBounds_toArray, List.set_cons_zero, List.set_cons_succ]
                        refine wpAny_at (i := 20) (v := .slice (some ⟨N, 0, none⟩) (s.size + 1) (s.size + 1)) (some 71) rfl rfl (by kernel_rfl) (by kernel_rfl) (by kernel_rfl) (fun _ _ _ h => h) (by kernel_rfl) (fun _ => ex_move _ _ rfl (by kernel_rfl)) ?_
                        simp only [Act.put, List.setIfInBounds_toArray, List.set_cons_zero, List.set_cons_succ]
                        refine wpAny_at (i := 21) (v := .int .i64 ((m : Int) + 1)) (some 72) rfl rfl (by kernel_rfl) (by kernel_rfl) (by kernel_rfl) (fun _ _ _ h => h) (by kernel_rfl) (fun _ => ex_move _ _ rfl (by kernel_rfl)) ?_
                        simp only [Act.put, List.setIfInBounds_toArray, List.set_cons_zero, List.set_cons_succ]
                        refine wpAny_at (i := 22) (v := .int .i64 m) (some 73) rfl rfl (by kernel_rfl) (by kernel_rfl) (by kernel_rfl) (fun _ _ _ h => h) (by kernel_rfl) (fun _ => ex_binOp .sub 3 _ _ _ (.int .i64 ((m : Int) + 1)) (.int .i64 1) _ rfl (by kernel_rfl) (by kernel_rfl) (HSB.out _)) ?_
                        simp only [Act.put, List.setIfInBounds_toArray, List.set_cons_zero, List.set_cons_succ]
                        refine wpAny_at (i := 23) (v := .pointer (some ⟨N, m, none⟩)) (some 74) rfl rfl (by kernel_rfl) (by kernel_rfl) (by kernel_rfl) (fun _ _ _ h => h) (by kernel_rfl) (fun _ => ex_indexAddr 86 _ _ (.slice (some ⟨N, 0, none⟩) (s.size + 1) (s.size + 1)) (.int .i64 m) _ rfl (by kernel_rfl) (by kernel_rfl) (HIN.out _)) ?_
                        simp only [Act.put, List.setIfInBounds_toArray, List.set_cons_zero, List.set_cons_succ]
                        refine wpAny_val 24 (some 75) (.bool true) (by kernel_rfl) rfl rfl (by kernel_rfl) (ex_load 4 _ (.pointer (some ⟨N, m, none⟩)) _ rfl (by kernel_rfl) (by go_simp)) ?_
                        simp only [Act.put, List.setIfInBounds_toArray, List.set_cons_zero, List.set_cons_succ]
                        refine wpAny_at (i := 25) (v := .bool true) (some 76) rfl rfl (by kernel_rfl) (by kernel_rfl) (by kernel_rfl) (fun _ _ _ h => h) (by kernel_rfl) (fun _ => ex_pick _ _ _ true (.bool true) (.bool false) rfl (by kernel_rfl) (by kernel_rfl) (by kernel_rfl)) ?_
                        simp only [Act.put, List.setIfInBounds_toArray, List.set_cons_zero, List.set_cons_succ]
                        refine wpAny_at (i := 26) (v := .bool true) (some 77) rfl rfl (by kernel_rfl) (by kernel_rfl) (by kernel_rfl) (fun _ _ _ h => h) (by kernel_rfl) (fun _ => ex_pick _ _ _ false (.bool true) (.bool true) rfl (by kernel_rfl) (by kernel_rfl) (by kernel_rfl)) ?_
                        simp only [Act.put, List.setIfInBounds_toArray, List.set_cons_zero, List.set_cons_succ]
                        refine wpAny_at (i := 27) (v := .bool true) (some 78) rfl rfl (by kernel_rfl) (by kernel_rfl) (by kernel_rfl) (fun _ _ _ h => h) (by kernel_rfl) (fun _ => ex_pick _ _ _ true (.bool true) (.bool false) rfl (by kernel_rfl) (by kernel_rfl) (by kernel_rfl)) ?_
                        simp only [Act.put, List.setIfInBounds_toArray, List.set_cons_zero, List.set_cons_succ]
                        refine wpAny_done (by kernel_rfl) ?_ _
                        go_wp2_with fail
                        have HR7 := Lib.hid (HR4.out.of_block (hb7.block _ HR4.out.lt))
                        have HG7 := Lib.hid (HG4.out.of_block (hb7.block _ HG4.out.lt))
                        have HA7 := Lib.hid (HA4.out.keep (hb7.block _ hq4))
                        have HB7 := Lib.hid (HB4.out.trans (hb7.mono HB4.out.size))
                        have HRE : Hid ((w7.setCell ⟨N, m + 1, none⟩ (.bool true)).rowIs N 4 (s.size + 1) (fun j => .bool (if j < m + 1 + 1 then advF x s g j else false))) := (HR7.out.set (m + 1) (.bool true)).congr fun j hj => by
                          by_cases h : j = m + 1
                          · rw [if_pos h, if_pos (by omega), h, HVE.out]
                          · rw [if_neg h, if_neg h]
                            by_cases h2 : j < m + 1
                            · rw [if_pos h2, if_pos (by omega)]
                            · rw [if_neg h2, if_neg (by omega)]
                        go_roundg (s.size + 1 - (m + 1 + 1))
                        case measure => omega
                        case rel => exact ⟨m + 1 + 1, by omega, by go_num, HRE.out, HG7.out.of_block (Below.heap_setCell _ _ _ _ (show b ≠ N by omega)), HA7.out.keep (Below.heap_setCell _ _ _ _ (show q ≠ N by omega)), HB7.out.setCell (p := ⟨N, m + 1, none⟩) (show w.heap.size ≤ N by omega) _, Nat.le_refl _⟩
                      | false =>
                        rw [hni] at HV
                        have HVE : Hid (advF x s g (m + 1) = false) := by
                          show _ = _
                          rw [HV.out]
                          exact Bool.or_false _
                        refine wp_region_at 28 #[false, false, false, false, false, false, false, false, false, false, false, false, false, false, false, false, false, false, false, false, false, false, false, false, false, false, false, false] rfl rfl (by kernel_rfl) ?_
                        refine wpAny_at (i := 0) (v := .int .i64 ((m : Int) + 1)) (some 51) rfl rfl (by kernel_rfl) (by kernel_rfl) (by kernel_rfl) (fun _ _ _ h => h) (by kernel_rfl) (fun _ => ex_move _ _ rfl (by kernel_rfl)) ?_
                        simp only [Act.put, List.setIfInBounds_toArray, List.set_cons_zero, List.set_cons_succ]
                        refine wpAny_at (i := 1) (v := .bool true) (some 52) rfl rfl (by kernel_rfl) (by kernel_rfl) (by kernel_rfl) (fun _ _ _ h => h) (by kernel_rfl) (fun _ => ex_binOp .gtr 3 _ _ _ (.int .i64 ((m : Int) + 1)) (.int .i64 0) _ rfl (by kernel_rfl) (by kernel_rfl) (HGT.out _)) ?_
                        simp only [Act.put, List.setIfInBounds_toArray, List.set_cons_zero, List.set_cons_succ]
                        refine wpAny_at (i := 2) (v := .bool true) (some 53) rfl rfl (by kernel_rfl) (by kernel_rfl) (by kernel_rfl) (fun _ _ _ h => h) (by kernel_rfl) (fun _ => ex_move _ _ rfl (by kernel_rfl)) ?_
                        simp only [Act.put, List.setIfInBounds_toArray, List.set_cons_zero, List.set_cons_succ]
                        refine wpAny_at (i := 4) (v := .string s) (some 55) rfl rfl (by kernel_rfl) (by kernel_rfl) (by kernel_rfl) (fun _ _ _ h => h) (by kernel_rfl) (fun _ => ex_move _ _ rfl (by kernel_rfl)) ?_
                        simp only [Act.put, List.setIfInBounds_toArray, List.set_cons_zero, List.set_cons_succ]
                        refine wpAny_at (i := 5) (v := .int .i64 ((m : Int) + 1)) (some 56) rfl rfl (by kernel_rfl) (by kernel_rfl) (by kernel_rfl) (fun _ _ _ h => h) (by kernel_rfl) (fun _ => ex_move _ _ rfl (by kernel_rfl)) ?_
                        simp only [Act.put, List.setIfInBounds_toArray, List.set_cons_zero, List.set_cons_succ]
                        refine wpAny_at (i := 6) (v := .int .i64 m) (some 57) rfl rfl (by kernel_rfl) (by kernel_rfl) (by kernel_rfl) (fun _ _ _ h => h) (by kernel_rfl) (fun _ => ex_binOp .sub 3 _ _ _ (.int .i64 ((m : Int) + 1)) (.int .i64 1) _ rfl (by kernel_rfl) (by kernel_rfl) (HSB.out _)) ?_
                        simp only [Act.put, List.setIfInBounds_toArray, List.set_cons_zero, List.set_cons_succ]
                        refine wpAny_at (i := 7) (v := .int .u8 (s[m].toNat)) (some 58) rfl rfl (by kernel_rfl) (by kernel_rfl) (by kernel_rfl) (fun _ _ _ h => h) (by kernel_rfl) (fun _ => ex_index 9 _ _ (.string s) (.int .i64 m) _ rfl (by kernel_rfl) (by kernel_rfl) (HIX.out _)) ?_
                        simp only [Act.put, List.setIfInBounds_toArray, List.set_cons_zero, List.set_cons_succ]
                        refine wpAny_val 3 (some 54) (.agg (atC x).toArray) (by kernel_rfl) rfl rfl (by kernel_rfl) (ex_load 26 _ (.pointer (some ⟨q, 0, none⟩)) _ rfl (by kernel_rfl) (HLD.out)) ?_
                        simp only [Act.put, List.setIfInBounds_toArray, List.set_cons_zero, List.set_cons_succ]
                        refine wpAny_call 8 (some 59) (by kernel_rfl) rfl rfl (by kernel_rfl) 82 (#[.agg (atC x).toArray, .int .u8 (s[m].toNat)]) (by go_simp) (HC.out _) ?_
                        rintro e w7 ⟨rfl, hb7⟩
                        refine ⟨_, rfl, ?_⟩
                        have qa := (HG4.out.of_block (hb7.block _ HG4.out.lt)).cell (i := m) (by omega)
                        have qn := (HR4.out.of_block (hb7.block _ HR4.out.lt)).cell (i := m) (by omega)
                        have qy := (HA4.out.keep (hb7.block _ hq4)).many
                        rw [if_neg (by omega), if_pos (by omega)] at qn
                        rw [hfi] at qa
                        rw [hmm] at qy
                        rw [hni] at qn
                        have rf7 := (HR4.out.of_block (hb7.block _ HR4.out.lt)).frozen (m + 1)
                        have r7 := (HR4.out.of_block (hb7.block _ HR4.out.lt)).cell (i := m + 1) hil
                        rw [if_pos rfl] at r7
                        change wpAny _ _ _ _ _ _ (Act.put _ (some 59) _) _
                        simp only [Act.put, List.setIfInBounds_toArray, List.set_cons_zero, List.set_cons_succ]
                        refine wpAny_at (i := 9) (v := .bool true) (some 60) rfl rfl (by kernel_rfl) (by kernel_rfl) (by kernel_rfl) (fun _ _ _ h => h) (by kernel_rfl) (fun _ => ex_pick _ _ _ true (.bool true) (.bool false) rfl (by kernel_rfl) (by kernel_rfl) (by kernel_rfl)) ?_
                        simp only [Act.put, List.setIfInBounds_toArray, List.set_cons_zero, List.set_cons_succ]
                        refine wpAny_at (i := 10) (v := .bool true) (some 61) rfl rfl (by kernel_rfl) (by kernel_rfl) (by kernel_rfl) (fun _ _ _ h => h) (by kernel_rfl) (fun _ => ex_move _ _ rfl (by kernel_rfl)) ?_
                        simp only [Act.put, List.setIfInBounds_toArray, List.set_cons_zero, List.set_cons_succ]
                        refine wpAny_at (i := 11) (v := .slice (some ⟨b, 0, none⟩) (s.size + 1) (s.size + 1)) (some 62) rfl rfl (by kernel_rfl) (by kernel_rfl) (by kernel_rfl) (fun _ _ _ h => h) (by kernel_rfl) (fun _ => ex_move _ _ rfl (by kernel_rfl)) ?_
                        simp only [Act.put, List.setIfInBounds_toArray, List.set_cons_zero, List.set_cons_succ]
                        refine wpAny_at (i := 12) (v := .int .i64 ((m : Int) + 1)) (some 63) rfl rfl (by kernel_rfl) (by kernel_rfl) (by kernel_rfl) (fun _ _ _ h => h) (by kernel_rfl) (fun _ => ex_move _ _ rfl (by kernel_rfl)) ?_
                        simp only [Act.put, List.setIfInBounds_toArray, List.set_cons_zero, List.set_cons_succ]
                        refine wpAny_at (i := 13) (v := .int .i64 m) (some 64) rfl rfl (by kernel_rfl) (by kernel_rfl) (by kernel_rfl) (fun _ _ _ h => h) (by kernel_rfl) (fun _ => ex_binOp .sub 3 _ _ _ (.int .i64 ((m : Int) + 1)) (.int .i64 1) _ rfl (by kernel_rfl) (by kernel_rfl) (HSB.out _)) ?_
                        simp only [Act.put, List.setIfInBounds_toArray, List.set_cons_zero, List.set_cons_succ]
                        refine wpAny_at (i := 14) (v := .pointer (some ⟨b, m, none⟩)) (some 65) rfl rfl (by kernel_rfl) (by kernel_rfl) (by kernel_rfl) (fun _ _ _ h => h) (by kernel_rfl) (fun _ => ex_indexAddr 86 _ _ (.slice (some ⟨b, 0, none⟩) (s.size + 1) (s.size + 1)) (.int .i64 m) _ rfl (by kernel_rfl) (by kernel_rfl) (HIB.out _)) ?_
                        simp only [Act.put, List.setIfInBounds_toArray, List.set_cons_zero, List.set_cons_succ]
                        refine wpAny_val 15 (some 66) (.bool false) (by kernel_rfl) rfl rfl (by kernel_rfl) (ex_load 4 _ (.pointer (some ⟨b, m, none⟩)) _ rfl (by kernel_rfl) (by go_simp)) ?_
                        simp only [Act.put, List.setIfInBounds_toArray, List.set_cons_zero, List.set_cons_succ]
                        refine wpAny_at (i := 16) (v := .bool false) (some 67) rfl rfl (by kernel_rfl) (by kernel_rfl) (by kernel_rfl) (fun _ _ _ h => h) (by kernel_rfl) (fun _ => ex_move _ _ rfl (by kernel_rfl)) ?_
                        simp only [Act.put, List.setIfInBounds_toArray, List.set_cons_zero, List.set_cons_succ]
                        refine wpAny_at (i := 17) (v := .pointer (some ⟨q, 33, none⟩)) (some 68) rfl rfl (by kernel_rfl) (by kernel_rfl) (by kernel_rfl) (fun _ _ _ h => h) (by kernel_rfl) (fun _ => ex_fieldAddr 26 _ 2 (.pointer (some ⟨q, 0, none⟩)) _ rfl (by kernel_rfl) (by go_simp)) ?_
                        simp only [Act.put, List.setIfInBounds_toArray, List.set_cons_zero, List.set_cons_succ]
                        refine wpAny_val 18 (some 69) (.bool true) (by kernel_rfl) rfl rfl (by kernel_rfl) (ex_load 4 _ (.pointer (some ⟨q, 33, none⟩)) _ rfl (by kernel_rfl) (by go_simp)) ?_
                        simp only [Act.put, List.setIfInBounds_toArray, List.set_cons_zero, List.set_cons_succ]
                        refine wpAny_at (i := 19) (v := .bool true) (some 70) rfl rfl (by kernel_rfl) (by kernel_rfl) (by kernel_rfl) (fun _ _ _ h => h) (by kernel_rfl) (fun _ => ex_move _ _ rfl (by kernel_rfl)) ?_
                        simp only [Act.put, List.setIfInBounds_toArray, List.set_cons_zero, List.set_cons_succ]
                        refine wpAny_at (i := 20) (v := .slice (some ⟨N, 0, none⟩) (s.size + 1) (s.size + 1)) (some 71) rfl rfl (by kernel_rfl) (by kernel_rfl) (by kernel_rfl) (fun _ _ _ h => h) (by kernel_rfl) (fun _ => ex_move _ _ rfl (by kernel_rfl)) ?_
                        simp only [Act.put, List.setIfInBounds_toArray, List.set_cons_zero, List.set_cons_succ]
                        refine wpAny_at (i := 21) (v := .int .i64 ((m : Int) + 1)) (some 72) rfl rfl (by kernel_rfl) (by kernel_rfl) (by kernel_rfl) (fun _ _ _ h => h) (by kernel_rfl) (fun _ => ex_move _ _ rfl (by kernel_rfl)) ?_
                        simp only [Act.put, List.setIfInBounds_toArray, List.set_cons_zero, List.set_cons_succ]
                        refine wpAny_at (i := 22) (v := .int .i64 m) (some 73) rfl rfl (by kernel_rfl) (by kernel_rfl) (by kernel_rfl) (fun _ _ _ h => h) (by kernel_rfl) (fun _ => ex_binOp .sub 3 _ _ _ (.int .i64 ((m : Int) + 1)) (.int .i64 1) _ rfl (by kernel_rfl) (by kernel_rfl) (HSB.out _)) ?_
                        simp only [Act.put, List.setIfInBounds_toArray, List.set_cons_zero, List.set_cons_succ]
                        refine wpAny_at (i := 23) (v := .pointer (some ⟨N, m, none⟩)) (some 74) rfl rfl (by kernel_rfl) (by kernel_rfl) (by kernel_rfl) (fun _ _ _ h => h) (by kernel_rfl) (fun _ => ex_indexAddr 86 _ _ (.slice (some ⟨N, 0, none⟩) (s.size + 1) (s.size + 1)) (.int .i64 m) _ rfl (by kernel_rfl) (by kernel_rfl) (HIN.out _)) ?_
                        simp only [Act.put, List.setIfInBounds_toArray, List.set_cons_zero, List.set_cons_succ]
                        refine wpAny_val 24 (some 75) (.bool false) (by kernel_rfl) rfl rfl (by kernel_rfl) (ex_load 4 _ (.pointer (some ⟨N, m, none⟩)) _ rfl (by kernel_rfl) (by go_simp)) ?_
                        simp only [Act.put, List.setIfInBounds_toArray, List.set_cons_zero, List.set_cons_succ]
                        refine wpAny_at (i := 25) (v := .bool false) (some 76) rfl rfl (by kernel_rfl) (by kernel_rfl) (by kernel_rfl) (fun _ _ _ h => h) (by kernel_rfl) (fun _ => ex_pick _ _ _ true (.bool false) (.bool false) rfl (by kernel_rfl) (by kernel_rfl) (by kernel_rfl)) ?_
                        simp only [Act.put, List.setIfInBounds_toArray, List.set_cons_zero, List.set_cons_succ]
                        refine wpAny_at (i := 26) (v := .bool false) (some 77) rfl rfl (by kernel_rfl) (by kernel_rfl) (by kernel_rfl) (fun _ _ _ h => h) (by kernel_rfl) (fun _ => ex_pick _ _ _ false (.bool true) (.bool false) rfl (by kernel_rfl) (by kernel_rfl) (by kernel_rfl)) ?_
                        simp only [Act.put, List.setIfInBounds_toArray, List.set_cons_zero, List.set_cons_succ]
                        refine wpAny_at (i := 27) (v := .bool false) (some 78) rfl rfl (by kernel_rfl) (by kernel_rfl) (by kernel_rfl) (fun _ _ _ h => h) (by kernel_rfl) (fun _ => ex_pick _ _ _ true (.bool false) (.bool false) rfl (by kernel_rfl) (by kernel_rfl) (by kernel_rfl)) ?_
                        simp only [Act.put, List.setIfInBounds_toArray, List.set_cons_zero, List.set_cons_succ]
                        refine wpAny_done (by kernel_rfl) ?_ _
                        go_wp2_with fail
                        have HR7 := Lib.hid (HR4.out.of_block (hb7.block _ HR4.out.lt))
                        have HG7 := Lib.hid (HG4.out.of_block (hb7.block _ HG4.out.lt))
                        have HA7 := Lib.hid (HA4.out.keep (hb7.block _ hq4))
                        have HB7 := Lib.hid (HB4.out.trans (hb7.mono HB4.out.size))
                        have HRE : Hid (w7.rowIs N 4 (s.size + 1) (fun j => .bool (if j < m + 1 + 1 then advF x s g j else false))) := HR7.out.congr fun j hj => by
                          by_cases h : j = m + 1
                          · rw [if_pos h, if_pos (by omega), h, HVE.out]
                          · rw [if_neg h]
                            by_cases h2 : j < m + 1
                            · rw [if_pos h2, if_pos (by omega)]
                            · rw [if_neg h2, if_neg (by omega)]
                        go_roundg (s.size + 1 - (m + 1 + 1))
                        case measure => omega
                        case rel => exact ⟨m + 1 + 1, by omega, by go_num, HRE.out, HG7.out, HA7.out, HB7.out, Nat.le_refl _⟩
          · obtain rfl : i = s.size + 1 := by omega
            have hii : ¬ (((s.size + 1 : Nat)) : Int) < (s.size : Int) + 1 := by omega
            have HRE : Hid (wr.rowIs N 4 (s.size + 1) (fun j => .bool (advF x s g j))) := HR.out.congr fun j hj => by rw [if_pos hj]
            go_wp2_with fail
            go_roundg (l.length - (k + 1))
            case measure => omega
            case rel => exact ⟨k + 1, N, advF x s g, rfl, by go_num, by omega, by omega, HRE.out, HX2.out, HB.out, Nat.le_refl _⟩
      · have hki2 : ¬ (k : Int) < (l.length : Int) := by omega
        have HE : Hid (g = R) := by
          have h := HX.out
          rw [List.drop_eq_nil_of_le (by omega)] at h
          exact h
        go_wp2_with fail
        go_ret
        rw [HE.out] at HG
        exact ⟨b, rfl, hbw, HG.out, HB.out⟩

end Go.Proofs.YtpboaadjbkaidaaDoor
