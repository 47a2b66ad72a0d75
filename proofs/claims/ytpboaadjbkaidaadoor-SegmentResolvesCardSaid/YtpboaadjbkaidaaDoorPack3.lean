/-
  Contracts and plain laws, part 3 of those that this chapter's claims share.
-/
import Derived.Test.YtpboaadjbkaidaaDoorPack2
import Derived.Lib.SliceRun
import Derived.Test.YtpboaadjbkaidaaDoorPack1
import Derived.Lib.Strings
import Derived.Test.YtpboaadjbkaidaaDoorChecked
import Derived.KernelRfl
import Derived.WalkKit
import Derived.ProofKit
import Derived.OpenShut
import Derived.Lib.SmallJoins
namespace Go.Proofs.YtpboaadjbkaidaaDoor
set_option maxRecDepth 100000
open Go.RowKit

theorem at_range {w : World} {q : Nat} {x : At} (h : AtIn w q x) : w.drew.rangeAt q 0 (atC x) := fun j v hj => by
  rw [Nat.zero_add]
  show w.cell? _ = _
  rw [cell_of_row _ _ _ _ _ _ h]
  simpa using hj

set_option maxRecDepth 100000 in
set_option maxHeartbeats 8000000 in
theorem ends_any (l : List At) (s : ByteArray) (lv : Value) (w : World) (hp : RdE atC 34 w lv l) (hs : s.size ≤ 1048576) (hl : l.length ≤ 140737488355328) :
    Calls Tryd.prog 50 #[lv, .string s] w (RetPl w (s.size + 1) (reachF s l allF)) := by
  obtain ⟨A, c, rfl, hlc, _⟩ := hp.shape
  have HP := Lib.hid hp
  clear hp
  have hu := Tryd.underlying26
  have hi : (Tryd.prog.info? 26).map (·.size) = some 34 := atom_size
  have hmk := fun w => run_make_row' (P := Tryd.prog) 86 4 (.bool false) 1 Tryd.underlying86 bool_info rfl .i64 .i64 (s.size + 1) (by omega) (by omega) w
  rw [show ((s.size + 1 : Nat) : Int) = (s.size : Int) + 1 by omega] at hmk
  obtain ⟨R, HRR⟩ : ∃ R, Hid (R = reachF s l allF) := ⟨_, rfl⟩
  rw [← HRR.out]
  go_enter Tryd.func50, Tryd.ntmps50
  have HR0 : Hid ((w.alloc (.cells (madeCells #[.bool false] (s.size + 1)) 4)).rowIs w.heap.size 4 (s.size + 1) (fun j => .bool (decide (j < 0)))) := (World.rowIs_made w (.bool false) (s.size + 1) 4).congr fun j _ => by rw [decide_eq_false (by omega)]
  have HB0 := Lib.hid ((Below.refl w.heap.size w).alloc (Nat.le_refl _) (.cells (madeCells #[.bool false] (s.size + 1)) 4))
  go_upto_region 2 with fail
  generalize w.alloc (.cells (madeCells #[.bool false] (s.size + 1)) 4) = w1 at HR0 HB0 ⊢
  go_wp2_with fail
  go_loopg [17] (s.size + 1) (fun gk kv wr => ∃ k : Nat, k ≤ s.size + 1 ∧ kv = .int .i64 k ∧ Hid (wr.rowIs w.heap.size 4 (s.size + 1) (fun j => .bool (decide (j < k)))) ∧ Hid (Below w.heap.size w wr) ∧ s.size + 1 - k ≤ gk)
  case atStart => exact ⟨0, by omega, rfl, HR0.out, HB0.out, by omega⟩
  case round =>
    clear HR0 HB0
    obtain ⟨k, hk, rfl, HR, HB, hgk⟩ := hrel
    by_cases hkl : k < s.size + 1
    · have hki : (k : Int) < (s.size : Int) + 1 := by omega
      have r0 := HR.out.cell (i := k) hkl
      have rf := HR.out.frozen k
      have HR1 : Hid ((wr.setCell ⟨w.heap.size, k, none⟩ (.bool true)).rowIs w.heap.size 4 (s.size + 1) (fun j => .bool (decide (j < k + 1)))) := (HR.out.set k (.bool true)).congr fun j _ => by
        by_cases h : j = k
        · rw [if_pos h, decide_eq_true (by omega)]
        · rw [if_neg h]
          congr 1
          rw [decide_eq_decide]
          omega
      go_wp2_with fail
      go_roundg (s.size + 1 - (k + 1))
      case measure => omega
      case rel => exact ⟨k + 1, by omega, by go_num, HR1.out, HB.out.setCell (p := ⟨w.heap.size, k, none⟩) (Nat.le_refl _) _, Nat.le_refl _⟩
    obtain rfl : k = s.size + 1 := by omega
    have hki : ¬ (((s.size + 1 : Nat)) : Int) < (s.size : Int) + 1 := by omega
    have HRA : Hid (wr.rowIs w.heap.size 4 (s.size + 1) (fun j => .bool (allF j))) := HR.out.congr fun j hj => by rw [decide_eq_true hj]; rfl
    clear HR
    go_wp2_with fail
    obtain ⟨wo, HWO⟩ : ∃ wo, Hid (wo = wr) := ⟨wr, rfl⟩
    go_loopg [5, 26] l.length (fun gk pv kv wr => ∃ (k b : Nat) (g : Nat → Bool), pv = .slice (some ⟨b, 0, none⟩) (s.size + 1) (s.size + 1) ∧ kv = .int .i64 k ∧ k ≤ l.length ∧ w.heap.size ≤ b ∧ Hid (wr.rowIs b 4 (s.size + 1) (fun j => .bool (g j))) ∧ Hid (reachF s (l.drop k) g = R) ∧ Hid (Below w.heap.size w wr) ∧ l.length - k ≤ gk)
    case atStart => exact ⟨0, w.heap.size, allF, rfl, rfl, by omega, by omega, HRA.out, by (show _ = _); rw [HRR.out]; rfl, HB.out, by omega⟩
    case round =>
      clear HRA HB HWO
      obtain ⟨k, b, g, rfl, rfl, hk2, hbw, HG, HX, HB, hgk2⟩ := hrel
      by_cases hkl : k < l.length
      · have hki2 : (k : Int) < (l.length : Int) := by omega
        have hk0 : (0 : Int) ≤ (k : Int) := by omega
        obtain ⟨bp, o, rfl, hbl, hcell⟩ := HP.out.cells (by omega)
        have hx : l[k]? = some l[k] := List.getElem?_eq_getElem hkl
        have HX2 : Hid (reachF s (l.drop (k + 1)) (advF l[k] s g) = R) := by
          have h := HX.out
          rw [List.drop_eq_getElem_cons hkl] at h
          exact h
        have hrg : wr.rangeAt bp (o + k * 34) (atC l[k]) := fun j v hj => by
          rw [Nat.add_assoc]
          exact (HB.out.cell (p := ⟨bp, o + (k * 34 + j), none⟩) hbl).trans (hcell k _ j v hx hj)
        clear HX hx hcell
        generalize l[k] = x at HX2 hrg
        have hz := HB.out.size
        have HA1 := Lib.hid ((at_zero wr).row x)
        have HB1 : Hid (Below w.heap.size w ((wr.alloc (.cells #[.int .u8 0, .int .u8 0, .int .u8 0, .int .u8 0, .int .u8 0, .int .u8 0, .int .u8 0, .int .u8 0, .int .u8 0, .int .u8 0, .int .u8 0, .int .u8 0, .int .u8 0, .int .u8 0, .int .u8 0, .int .u8 0, .int .u8 0, .int .u8 0, .int .u8 0, .int .u8 0, .int .u8 0, .int .u8 0, .int .u8 0, .int .u8 0, .int .u8 0, .int .u8 0, .int .u8 0, .int .u8 0, .int .u8 0, .int .u8 0, .int .u8 0, .int .u8 0, .int .i64 0, .bool false] 26)).setRow wr.heap.size (atC x).toArray)) := below_setRow (HB.out.alloc hz _) hz _
        have HK1 : Hid (Below wr.heap.size wr ((wr.alloc (.cells #[.int .u8 0, .int .u8 0, .int .u8 0, .int .u8 0, .int .u8 0, .int .u8 0, .int .u8 0, .int .u8 0, .int .u8 0, .int .u8 0, .int .u8 0, .int .u8 0, .int .u8 0, .int .u8 0, .int .u8 0, .int .u8 0, .int .u8 0, .int .u8 0, .int .u8 0, .int .u8 0, .int .u8 0, .int .u8 0, .int .u8 0, .int .u8 0, .int .u8 0, .int .u8 0, .int .u8 0, .int .u8 0, .int .u8 0, .int .u8 0, .int .u8 0, .int .u8 0, .int .i64 0, .bool false] 26)).setRow wr.heap.size (atC x).toArray)) := below_setRow ((Below.refl _ wr).alloc (Nat.le_refl _) _) (Nat.le_refl _) _
        go_upto_region 10 with (first
          | (refine wpList_load_mid rfl 26 (.tmp 28) rfl bp (o + k * 34) rfl (atC x) _ hrg hu rfl (by rw [hi, atC_len]) ?_)
          | (refine wpList_store_row rfl 26 (.tmp 8) (.tmp 29) rfl (wr.heap.size) (atC x).toArray rfl rfl 26 (atC ⟨noP, 0, false⟩).toArray (at_zero wr) (by rw [atom_size, atC_size]) (by simp only [atC_size]) (atC_oneA _) ?_))
        have HG1 := Lib.hid (HG.out.of_block (w' := (wr.alloc (.cells #[.int .u8 0, .int .u8 0, .int .u8 0, .int .u8 0, .int .u8 0, .int .u8 0, .int .u8 0, .int .u8 0, .int .u8 0, .int .u8 0, .int .u8 0, .int .u8 0, .int .u8 0, .int .u8 0, .int .u8 0, .int .u8 0, .int .u8 0, .int .u8 0, .int .u8 0, .int .u8 0, .int .u8 0, .int .u8 0, .int .u8 0, .int .u8 0, .int .u8 0, .int .u8 0, .int .u8 0, .int .u8 0, .int .u8 0, .int .u8 0, .int .u8 0, .int .u8 0, .int .i64 0, .bool false] 26)).setRow wr.heap.size (atC x).toArray) (HK1.out.block _ HG.out.lt))
        have hbq : b < wr.heap.size := HG.out.lt
        have hz1 := HK1.out.size
        have hqz : wr.heap.size < ((wr.alloc (.cells #[.int .u8 0, .int .u8 0, .int .u8 0, .int .u8 0, .int .u8 0, .int .u8 0, .int .u8 0, .int .u8 0, .int .u8 0, .int .u8 0, .int .u8 0, .int .u8 0, .int .u8 0, .int .u8 0, .int .u8 0, .int .u8 0, .int .u8 0, .int .u8 0, .int .u8 0, .int .u8 0, .int .u8 0, .int .u8 0, .int .u8 0, .int .u8 0, .int .u8 0, .int .u8 0, .int .u8 0, .int .u8 0, .int .u8 0, .int .u8 0, .int .u8 0, .int .u8 0, .int .i64 0, .bool false] 26)).setRow wr.heap.size (atC x).toArray).heap.size := (Array.getElem?_eq_some_iff.1 HA1.out).1
        clear HB hrg HG HK1
        generalize wr.heap.size = q at HA1 HB1 HG1 hz hbq hz1 hqz ⊢
        generalize (wr.alloc (.cells #[.int .u8 0, .int .u8 0, .int .u8 0, .int .u8 0, .int .u8 0, .int .u8 0, .int .u8 0, .int .u8 0, .int .u8 0, .int .u8 0, .int .u8 0, .int .u8 0, .int .u8 0, .int .u8 0, .int .u8 0, .int .u8 0, .int .u8 0, .int .u8 0, .int .u8 0, .int .u8 0, .int .u8 0, .int .u8 0, .int .u8 0, .int .u8 0, .int .u8 0, .int .u8 0, .int .u8 0, .int .u8 0, .int .u8 0, .int .u8 0, .int .u8 0, .int .u8 0, .int .i64 0, .bool false] 26)).setRow q (atC x).toArray = w2 at HA1 HB1 HG1 hz1 hqz ⊢
        have HR1 : Hid ((w2.alloc (.cells (madeCells #[.bool false] (s.size + 1)) 4)).rowIs w2.heap.size 4 (s.size + 1) (fun j => .bool (if j < 0 then advF x s g j else false))) := (World.rowIs_made w2 (.bool false) (s.size + 1) 4).congr fun j _ => by rw [if_neg (Nat.not_lt_zero j)]
        have HB2 := Lib.hid (HB1.out.alloc (by omega) (.cells (madeCells #[.bool false] (s.size + 1)) 4))
        have HA2 : Hid (AtIn (w2.alloc (.cells (madeCells #[.bool false] (s.size + 1)) 4)) q x) := HA1.out.keep (Below.heap_alloc w2 _ q hqz)
        have HG2 := Lib.hid (HG1.out.of_block (w' := w2.alloc (.cells (madeCells #[.bool false] (s.size + 1)) 4)) (Below.heap_alloc w2 _ b (by omega)))
        go_upto_region 11 with fail
        clear HB1 HA1 HG1 hz1
        generalize w2.heap.size = N at HR1 hqz ⊢
        generalize w2.alloc (.cells (madeCells #[.bool false] (s.size + 1)) 4) = w3 at HR1 HB2 HA2 HG2 ⊢
        go_wp2_with fail
        obtain ⟨wo2, HWO2⟩ : ∃ wo, Hid (wo = w3) := ⟨w3, rfl⟩
        go_loopg [36] (s.size + 1) (fun gk kv wr => ∃ i : Nat, i ≤ s.size + 1 ∧ kv = .int .i64 i ∧ Hid (wr.rowIs N 4 (s.size + 1) (fun j => .bool (if j < i then advF x s g j else false))) ∧ Hid (wr.rowIs b 4 (s.size + 1) (fun j => .bool (g j))) ∧ Hid (AtIn wr q x) ∧ Hid (Below w.heap.size w wr) ∧ s.size + 1 - i ≤ gk)
        case atStart => exact ⟨0, by omega, rfl, HR1.out, HG2.out, HA2.out, HB2.out, by omega⟩
        case round =>
          clear HR1 HG2 HA2 HB2
          obtain ⟨i, hil0, rfl, HR, HG, HA, HB, hgk3⟩ := hrel
          by_cases hil : i < s.size + 1
          · have hii : (i : Int) < (s.size : Int) + 1 := by omega
            have hi0 : (0 : Int) ≤ (i : Int) := by omega
            have qm := HA.out.mn
            have qg := HG.out.cell (i := i) hil
            have r0 := HR.out.cell (i := i) hil
            rw [if_neg (Nat.lt_irrefl i)] at r0
            have rf := HR.out.frozen i
            have hbN : b < N := by omega
            obtain ⟨gi, hgi⟩ : ∃ gi, g i = gi := ⟨_, rfl⟩
            rw [hgi] at qg
            by_cases hm : x.mn < 1
            · have HBI : Hid ((decide (x.mn < 1) && g i) = gi) := by show _ = _; rw [decide_eq_true hm, hgi]; rfl
              have HR1 : Hid ((wr.setCell ⟨N, i, none⟩ (.bool gi)).rowIs N 4 (s.size + 1) (fun j => .bool (if j = i then gi else if j < i then advF x s g j else false))) := (HR.out.set i (.bool gi)).congr fun j hj => by
                by_cases h : j = i
                · rw [if_pos h, if_pos h]
                · rw [if_neg h, if_neg h]
              have HG1 := Lib.hid (HG.out.of_block (w' := (wr.setCell ⟨N, i, none⟩ (.bool gi))) (Below.heap_setCell _ _ _ _ (show b ≠ N by omega)))
              have HA1 : Hid (AtIn (wr.setCell ⟨N, i, none⟩ (.bool gi)) q x) := HA.out.keep (Below.heap_setCell _ _ _ _ (show q ≠ N by omega))
              have HB1 : Hid (Below w.heap.size w (wr.setCell ⟨N, i, none⟩ (.bool gi))) := HB.out.setCell (p := ⟨N, i, none⟩) (show w.heap.size ≤ N by omega) _
              have hN4 : N < (wr.setCell ⟨N, i, none⟩ (.bool gi)).heap.size := HR1.out.lt
              go_upto_region 15 with fail
              clear HR HG HA HB qm qg r0 rf hgi
              generalize (wr.setCell ⟨N, i, none⟩ (.bool gi)) = w4 at HR1 HG1 HA1 HB1 hN4 ⊢
              rcases i with _ | m
              · have HVE : Hid (advF x s g 0 = gi) := by show _ = _; rw [adv_zero, HBI.out]
                refine wp_region_at 28 #[false, false, false, false, false, false, false, false, false, false, false, false, false, false, false, false, false, false, false, false, false, false, false, false, false, false, false, false] rfl rfl (by kernel_rfl) ?_
                refine wpAny_at (i := 0) (v := .int .i64 0) (some 51) rfl rfl (by kernel_rfl) (by kernel_rfl) (by kernel_rfl) (fun _ _ _ h => h) (by kernel_rfl) (fun _ => ex_move _ _ rfl (by kernel_rfl)) ?_
                simp only [Act.put, List.setIfInBounds_toArray, List.set_cons_zero, List.set_cons_succ]
                refine wpAny_at (i := 1) (v := .bool false) (some 52) rfl rfl (by kernel_rfl) (by kernel_rfl) (by kernel_rfl) (fun _ _ _ h => h) (by kernel_rfl) (fun _ => ex_binOp .gtr 3 _ _ _ (.int .i64 0) (.int .i64 0) _ rfl (by kernel_rfl) (by kernel_rfl) (by go_simp)) ?_
                simp only [Act.put, List.setIfInBounds_toArray, List.set_cons_zero, List.set_cons_succ]
                refine wpAny_at (i := 2) (v := .bool false) (some 53) rfl rfl (by kernel_rfl) (by kernel_rfl) (by kernel_rfl) (fun _ _ _ h => h) (by kernel_rfl) (fun _ => ex_move _ _ rfl (by kernel_rfl)) ?_
                simp only [Act.put, List.setIfInBounds_toArray, List.set_cons_zero, List.set_cons_succ]
                refine wpAny_skip 3 (some 54) rfl rfl (by kernel_rfl) (by kernel_rfl) (by kernel_rfl) (fun _ _ _ h => h) (by kernel_rfl) ?_
                simp only [Act.put, List.setIfInBounds_toArray, List.set_cons_zero, List.set_cons_succ]
                refine wpAny_skip 4 (some 55) rfl rfl (by kernel_rfl) (by kernel_rfl) (by kernel_rfl) (fun _ _ _ h => h) (by kernel_rfl) ?_
                simp only [Act.put, List.setIfInBounds_toArray, List.set_cons_zero, List.set_cons_succ]
                refine wpAny_skip 5 (some 56) rfl rfl (by kernel_rfl) (by kernel_rfl) (by kernel_rfl) (fun _ _ _ h => h) (by kernel_rfl) ?_
                simp only [Act.put, List.setIfInBounds_toArray, List.set_cons_zero, List.set_cons_succ]
                refine wpAny_skip 6 (some 57) rfl rfl (by kernel_rfl) (by kernel_rfl) (by kernel_rfl) (fun _ _ _ h => h) (by kernel_rfl) ?_
                simp only [Act.put, List.setIfInBounds_toArray, List.set_cons_zero, List.set_cons_succ]
                refine wpAny_skip 7 (some 58) rfl rfl (by kernel_rfl) (by kernel_rfl) (by kernel_rfl) (fun _ _ _ h => h) (by kernel_rfl) ?_
                simp only [Act.put, List.setIfInBounds_toArray, List.set_cons_zero, List.set_cons_succ]
                refine wpAny_skip 8 (some 59) rfl rfl (by kernel_rfl) (by kernel_rfl) (by kernel_rfl) (fun _ _ _ h => h) (by kernel_rfl) ?_
                simp only [Act.put, List.setIfInBounds_toArray, List.set_cons_zero, List.set_cons_succ]
                refine wpAny_at (i := 9) (v := .bool false) (some 60) rfl rfl (by kernel_rfl) (by kernel_rfl) (by kernel_rfl) (fun _ _ _ h => h) (by kernel_rfl) (fun _ => ex_pick _ _ _ false (undef) (.bool false) rfl (by kernel_rfl) (by kernel_rfl) (by kernel_rfl)) ?_
                simp only [Act.put, List.setIfInBounds_toArray, List.set_cons_zero, List.set_cons_succ]
                refine wpAny_at (i := 10) (v := .bool false) (some 61) rfl rfl (by kernel_rfl) (by kernel_rfl) (by kernel_rfl) (fun _ _ _ h => h) (by kernel_rfl) (fun _ => ex_move _ _ rfl (by kernel_rfl)) ?_
                simp only [Act.put, List.setIfInBounds_toArray, List.set_cons_zero, List.set_cons_succ]
                refine wpAny_skip 11 (some 62) rfl rfl (by kernel_rfl) (by kernel_rfl) (by kernel_rfl) (fun _ _ _ h => h) (by kernel_rfl) ?_
                simp only [Act.put, List.setIfInBounds_toArray, List.set_cons_zero, List.set_cons_succ]
                refine wpAny_skip 12 (some 63) rfl rfl (by kernel_rfl) (by kernel_rfl) (by kernel_rfl) (fun _ _ _ h => h) (by kernel_rfl) ?_
                simp only [Act.put, List.setIfInBounds_toArray, List.set_cons_zero, List.set_cons_succ]
                refine wpAny_skip 13 (some 64) rfl rfl (by kernel_rfl) (by kernel_rfl) (by kernel_rfl) (fun _ _ _ h => h) (by kernel_rfl) ?_
                simp only [Act.put, List.setIfInBounds_toArray, List.set_cons_zero, List.set_cons_succ]
                refine wpAny_skip 14 (some 65) rfl rfl (by kernel_rfl) (by kernel_rfl) (by kernel_rfl) (fun _ _ _ h => h) (by kernel_rfl) ?_
                simp only [Act.put, List.setIfInBounds_toArray, List.set_cons_zero, List.set_cons_succ]
                refine wpAny_skip 15 (some 66) rfl rfl (by kernel_rfl) (by kernel_rfl) (by kernel_rfl) (fun _ _ _ h => h) (by kernel_rfl) ?_
                simp only [Act.put, List.setIfInBounds_toArray, List.set_cons_zero, List.set_cons_succ]
                refine wpAny_skip 16 (some 67) rfl rfl (by kernel_rfl) (by kernel_rfl) (by kernel_rfl) (fun _ _ _ h => h) (by kernel_rfl) ?_
                simp only [Act.put, List.setIfInBounds_toArray, List.set_cons_zero, List.set_cons_succ]
                refine wpAny_skip 17 (some 68) rfl rfl (by kernel_rfl) (by kernel_rfl) (by kernel_rfl) (fun _ _ _ h => h) (by kernel_rfl) ?_
                simp only [Act.put, List.setIfInBounds_toArray, List.set_cons_zero, List.set_cons_succ]
                refine wpAny_skip 18 (some 69) rfl rfl (by kernel_rfl) (by kernel_rfl) (by kernel_rfl) (fun _ _ _ h => h) (by kernel_rfl) ?_
                simp only [Act.put, List.setIfInBounds_toArray, List.set_cons_zero, List.set_cons_succ]
                refine wpAny_skip 19 (some 70) rfl rfl (by kernel_rfl) (by kernel_rfl) (by kernel_rfl) (fun _ _ _ h => h) (by kernel_rfl) ?_
                simp only [Act.put, List.setIfInBounds_toArray, List.set_cons_zero, List.set_cons_succ]
                refine wpAny_skip 20 (some 71) rfl rfl (by kernel_rfl) (by kernel_rfl) (by kernel_rfl) (fun _ _ _ h => h) (by kernel_rfl) ?_
                simp only [Act.put, List.setIfInBounds_toArray, List.set_cons_zero, List.set_cons_succ]
                refine wpAny_skip 21 (some 72) rfl rfl (by kernel_rfl) (by kernel_rfl) (by kernel_rfl) (fun _ _ _ h => h) (by kernel_rfl) ?_
                simp only [Act.put, List.setIfInBounds_toArray, List.set_cons_zero, List.set_cons_succ]
                refine wpAny_skip 22 (some 73) rfl rfl (by kernel_rfl) (by kernel_rfl) (by kernel_rfl) (fun _ _ _ h => h) (by kernel_rfl) ?_
                simp only [Act.put, List.setIfInBounds_toArray, List.set_cons_zero, List.set_cons_succ]
                refine wpAny_skip 23 (some 74) rfl rfl (by kernel_rfl) (by kernel_rfl) (by kernel_rfl) (fun _ _ _ h => h) (by kernel_rfl) ?_
                simp only [Act.put, List.setIfInBounds_toArray, List.set_cons_zero, List.set_cons_succ]
                refine wpAny_skip 24 (some 75) rfl rfl (by kernel_rfl) (by kernel_rfl) (by kernel_rfl) (fun _ _ _ h => h) (by kernel_rfl) ?_
                simp only [Act.put, List.setIfInBounds_toArray, List.set_cons_zero, List.set_cons_succ]
                refine wpAny_skip 25 (some 76) rfl rfl (by kernel_rfl) (by kernel_rfl) (by kernel_rfl) (fun _ _ _ h => h) (by kernel_rfl) ?_
                simp only [Act.put, List.setIfInBounds_toArray, List.set_cons_zero, List.set_cons_succ]
                refine wpAny_skip 26 (some 77) rfl rfl (by kernel_rfl) (by kernel_rfl) (by kernel_rfl) (fun _ _ _ h => h) (by kernel_rfl) ?_
                simp only [Act.put, List.setIfInBounds_toArray, List.set_cons_zero, List.set_cons_succ]
                refine wpAny_at (i := 27) (v := .bool false) (some 78) rfl rfl (by kernel_rfl) (by kernel_rfl) (by kernel_rfl) (fun _ _ _ h => h) (by kernel_rfl) (fun _ => ex_pick _ _ _ false (undef) (.bool false) rfl (by kernel_rfl) (by kernel_rfl) (by kernel_rfl)) ?_
                simp only [Act.put, List.setIfInBounds_toArray, List.set_cons_zero, List.set_cons_succ]
                refine wpAny_done (by kernel_rfl) ?_ _
                have HRE : Hid (w4.drew.rowIs N 4 (s.size + 1) (fun j => .bool (if j < 0 + 1 then advF x s g j else false))) := HR1.out.congr fun j hj => by
                  by_cases h : j = 0
                  · rw [if_pos h, if_pos (by omega), h, HVE.out]
                  · rw [if_neg h, if_neg (by omega), if_neg (by omega)]
                go_wp2_with fail
                go_roundg (s.size + 1 - (0 + 1))
                case measure => omega
                case rel => exact ⟨0 + 1, by omega, by go_num, HRE.out, HG1.out.drew, HA1.out, HB1.out.drew, Nat.le_refl _⟩
              · have hms : m < s.size := by omega
                have hmsi : (m : Int) < (s.size : Int) := by omega
                have hm0 : (0 : Int) ≤ (m : Int) := by omega
                have hc1 : ((m + 1 : Nat) : Int) = (m : Int) + 1 := by omega
                rw [hc1]
                have HLD := Lib.hid (run_loadAt_mid (P := Tryd.prog) w4.drew q 0 26 (atC x) _ (at_range HA1.out) hu rfl (by rw [hi, atC_len]))
                have HGT : Hid (∀ w, (do eqGuard .gtr 3 (.tmp 51) (.const (.int .i64 0)) (.int .i64 ((m : Int) + 1)) (.int .i64 0); Go.binOp .gtr 3 (.int .i64 ((m : Int) + 1)) (.int .i64 0) : Sem Value).run Tryd.prog w = .ok (.bool true) w) := by
                  have h1 : (0 : Int) < (m : Int) + 1 := by omega
                  show ∀ w, _ = _
                  intro w
                  go_simp
                have HSB : Hid (∀ {x y : Operand} (w : World), (do eqGuard .sub 3 x y (.int .i64 ((m : Int) + 1)) (.int .i64 1); Go.binOp .sub 3 (.int .i64 ((m : Int) + 1)) (.int .i64 1) : Sem Value).run Tryd.prog w = .ok (.int .i64 m) w) := by
                  show ∀ (x y : Operand) (w : World), _ = _
                  intro x y w
                  go_simp
                  rw [IntKind.wrap_i64]
                  omega
                have HIX : Hid (∀ w, (Instr.index 9 (.string s) (.int .i64 m)).run Tryd.prog w = .ok (.int .u8 (s[m].toNat)) w) := by
                  show ∀ w, _ = _
                  intro w
                  go_simp
                have hmi2 : (m : Int) < (s.size : Int) + 1 := by omega
                have HIB : Hid (∀ w, (Instr.indexAt 86 (.slice (some ⟨b, 0, none⟩) (s.size + 1) (s.size + 1)) (.int .i64 m)).run Tryd.prog w = .ok (.pointer (some ⟨b, m, none⟩)) w) := by
                  show ∀ w, _ = _
                  intro w
                  go_simp
                have HIN : Hid (∀ w, (Instr.indexAt 86 (.slice (some ⟨N, 0, none⟩) (s.size + 1) (s.size + 1)) (.int .i64 m)).run Tryd.prog w = .ok (.pointer (some ⟨N, m, none⟩)) w) := by
                  show ∀ w, _ = _
                  intro w
                  go_simp
                have HV : Hid (advF x s g (m + 1) = (gi || (x.p (s[m].toNat) && (g m || (x.many && advF x s g m))))) := by
                  show _ = _
                  rw [adv_own, HBI.out, bt_get s m hms]
                have HC0 := Lib.hid (fun w => contains_any x (s[m].toNat) w (UInt8.toNat_lt _))
                have HR4 : Hid (w4.drew.rowIs N 4 (s.size + 1) (fun j => .bool (if j = m + 1 then gi else if j < m + 1 then advF x s g j else false))) := HR1.out
                have HG4 : Hid (w4.drew.rowIs b 4 (s.size + 1) (fun j => .bool (g j))) := HG1.out
                have HA4 : Hid (AtIn w4.drew q x) := HA1.out
                have HB4 : Hid (Below w.heap.size w w4.drew) := HB1.out.drew
                have hq4 : q < w4.drew.heap.size := (Array.getElem?_eq_some_iff.1 HA1.out).1
                have hN5 : N < w4.drew.heap.size := hN4
                clear HR1 HG1 HA1 HB1 hN4
                cases hpx : x.p (s[m].toNat) with
                | false =>
                  rw [hpx] at HV
                  have HC := HC0
                  rw [hpx] at HC
                  have HVE : Hid (advF x s g (m + 1) = gi) := by
                    show _ = _
                    rw [HV.out]
                    exact Bool.or_false _
                  refine wp_region_at 28 #[false, false, false, false, false, false, false, false, false, false, false, false, false, false, false, false, false, false, false, false, false, false, false, false, false, false, false, false] rfl rfl (by kernel_rfl) ?_
                  refine wpAny_at (i := 0) (v := .int .i64 ((m : Int) + 1)) (some 51) rfl rfl (by kernel_rfl) (by kernel_rfl) (by kernel_rfl) (fun _ _ _ h => h) (by kernel_rfl) (fun _ => ex_move _ _ rfl (by kernel_rfl)) ?_
                  simp only [Act.put, List.setIfInBounds_toArray, List.set_cons_zero, List.set_cons_succ]
                  refine wpAny_at (i := 1) (v := .bool true) (some 52) rfl rfl (by kernel_rfl) (by kernel_rfl) (by kernel_rfl) (fun _ _ _ h => h) (by kernel_rfl) (fun _ => ex_binOp .gtr 3 _ _ _ (.int .i64 ((m : Int) + 1)) (.int .i64 0) _ rfl (by kernel_rfl) (by kernel_rfl) (HGT.out _)) ?_
                  simp only [Act.put, List.setIfInBounds_toArray, List.set_cons_zero, List.set_cons_succ]
                  refine wpAny_at (i := 2) (v := .bool true) (some 53) rfl rfl (by kernel_rfl) (by kernel_rfl) (by kernel_rfl) (fun _ _ _ h => h) (by kernel_rfl) (fun _ => ex_move _ _ rfl (by kernel_rfl)) ?_
                  simp only [Act.put, List.setIfInBounds_toArray, List.set_cons_zero, List.set_cons_succ]
                  refine wpAny_at (i := 4) (v := .string s) (some 55) rfl rfl (by kernel_rfl) (by kernel_rfl) (by kernel_rfl) (fun _ _ _ h => h) (by kernel_rfl) (fun _ => ex_move _ _ rfl (by kernel_rfl)) ?_
                  simp only [Act.put, List.setIfInBounds_toArray, List.set_cons_zero, List.set_cons_succ]
                  refine wpAny_at (i := 5) (v := .int .i64 ((m : Int) + 1)) (some 56) rfl rfl (by kernel_rfl) (by kernel_rfl) (by kernel_rfl) (fun _ _ _ h => h) (by kernel_rfl) (fun _ => ex_move _ _ rfl (by kernel_rfl)) ?_
                  simp only [Act.put, List.setIfInBounds_toArray, List.set_cons_zero, List.set_cons_succ]
                  refine wpAny_at (i := 6) (v := .int .i64 m) (some 57) rfl rfl (by kernel_rfl) (by kernel_rfl) (by kernel_rfl) (fun _ _ _ h => h) (by kernel_rfl) (fun _ => ex_binOp .sub 3 _ _ _ (.int .i64 ((m : Int) + 1)) (.int .i64 1) _ rfl (by kernel_rfl) (by kernel_rfl) (HSB.out _)) ?_
                  simp only [Act.put, List.setIfInBounds_toArray, List.set_cons_zero, List.set_cons_succ]
                  refine wpAny_at (i := 7) (v := .int .u8 (s[m].toNat)) (some 58) rfl rfl (by kernel_rfl) (by kernel_rfl) (by kernel_rfl) (fun _ _ _ h => h) (by kernel_rfl) (fun _ => ex_index 9 _ _ (.string s) (.int .i64 m) _ rfl (by kernel_rfl) (by kernel_rfl) (HIX.out _)) ?_
                  simp only [Act.put, List.setIfInBounds_toArray, List.set_cons_zero, List.set_cons_succ]
                  refine wpAny_val 3 (some 54) (.agg (atC x).toArray) (by kernel_rfl) rfl rfl (by kernel_rfl) (ex_load 26 _ (.pointer (some ⟨q, 0, none⟩)) _ rfl (by kernel_rfl) (HLD.out)) ?_
                  simp only [Act.put, List.setIfInBounds_toArray, List.set_cons_zero, List.set_cons_succ]
                  refine wpAny_call 8 (some 59) (by kernel_rfl) rfl rfl (by kernel_rfl) 82 (#[.agg (atC x).toArray, .int .u8 (s[m].toNat)]) (by go_simp) (HC.out _) ?_
                  rintro e w7 ⟨rfl, hb7⟩
                  refine ⟨_, rfl, ?_⟩
                  have qa := (HG4.out.of_block (hb7.block _ HG4.out.lt)).cell (i := m) (by omega)
                  have qn := (HR4.out.of_block (hb7.block _ HR4.out.lt)).cell (i := m) (by omega)
                  have qy := (HA4.out.keep (hb7.block _ hq4)).many
                  rw [if_neg (by omega), if_pos (by omega)] at qn
                  have rf7 := (HR4.out.of_block (hb7.block _ HR4.out.lt)).frozen (m + 1)
                  have r7 := (HR4.out.of_block (hb7.block _ HR4.out.lt)).cell (i := m + 1) hil
                  rw [if_pos rfl] at r7
                  change wpAny _ _ _ _ _ _ (Act.put _ (some 59) _) _
                  simp only [Act.put, List.setIfInBounds_toArray, List.set_cons_zero, List.set_cons_succ]
                  refine wpAny_at (i := 9) (v := .bool false) (some 60) rfl rfl (by kernel_rfl) (by kernel_rfl) (by kernel_rfl) (fun _ _ _ h => h) (by kernel_rfl) (fun _ => ex_pick _ _ _ true (.bool false) (.bool false) rfl (by kernel_rfl) (by kernel_rfl) (by kernel_rfl)) ?_
                  simp only [Act.put, List.setIfInBounds_toArray, List.set_cons_zero, List.set_cons_succ]
                  refine wpAny_at (i := 10) (v := .bool false) (some 61) rfl rfl (by kernel_rfl) (by kernel_rfl) (by kernel_rfl) (fun _ _ _ h => h) (by kernel_rfl) (fun _ => ex_move _ _ rfl (by kernel_rfl)) ?_
                  simp only [Act.put, List.setIfInBounds_toArray, List.set_cons_zero, List.set_cons_succ]
                  refine wpAny_skip 11 (some 62) rfl rfl (by kernel_rfl) (by kernel_rfl) (by kernel_rfl) (fun _ _ _ h => h) (by kernel_rfl) ?_
                  simp only [Act.put, List.setIfInBounds_toArray, List.set_cons_zero, List.set_cons_succ]
                  refine wpAny_skip 12 (some 63) rfl rfl (by kernel_rfl) (by kernel_rfl) (by kernel_rfl) (fun _ _ _ h => h) (by kernel_rfl) ?_
                  simp only [Act.put, List.setIfInBounds_toArray, List.set_cons_zero, List.set_cons_succ]
                  refine wpAny_skip 13 (some 64) rfl rfl (by kernel_rfl) (by kernel_rfl) (by kernel_rfl) (fun _ _ _ h => h) (by kernel_rfl) ?_
                  simp only [Act.put, List.setIfInBounds_toArray, List.set_cons_zero, List.set_cons_succ]
                  refine wpAny_skip 14 (some 65) rfl rfl (by kernel_rfl) (by kernel_rfl) (by kernel_rfl) (fun _ _ _ h => h) (by kernel_rfl) ?_
                  simp only [Act.put, List.setIfInBounds_toArray, List.set_cons_zero, List.set_cons_succ]
                  refine wpAny_skip 15 (some 66) rfl rfl (by kernel_rfl) (by kernel_rfl) (by kernel_rfl) (fun _ _ _ h => h) (by kernel_rfl) ?_
                  simp only [Act.put, List.setIfInBounds_toArray, List.set_cons_zero, List.set_cons_succ]
                  refine wpAny_skip 16 (some 67) rfl rfl (by kernel_rfl) (by kernel_rfl) (by kernel_rfl) (fun _ _ _ h => h) (by kernel_rfl) ?_
                  simp only [Act.put, List.setIfInBounds_toArray, List.set_cons_zero, List.set_cons_succ]
                  refine wpAny_skip 17 (some 68) rfl rfl (by kernel_rfl) (by kernel_rfl) (by kernel_rfl) (fun _ _ _ h => h) (by kernel_rfl) ?_
                  simp only [Act.put, List.setIfInBounds_toArray, List.set_cons_zero, List.set_cons_succ]
                  refine wpAny_skip 18 (some 69) rfl rfl (by kernel_rfl) (by kernel_rfl) (by kernel_rfl) (fun _ _ _ h => h) (by kernel_rfl) ?_
                  simp only [Act.put, List.setIfInBounds_toArray, List.set_cons_zero, List.set_cons_succ]
                  refine wpAny_skip 19 (some 70) rfl rfl (by kernel_rfl) (by kernel_rfl) (by kernel_rfl) (fun _ _ _ h => h) (by kernel_rfl) ?_
                  simp only [Act.put, List.setIfInBounds_toArray, List.set_cons_zero, List.set_cons_succ]
                  refine wpAny_skip 20 (some 71) rfl rfl (by kernel_rfl) (by kernel_rfl) (by kernel_rfl) (fun _ _ _ h => h) (by kernel_rfl) ?_
                  simp only [Act.put, List.setIfInBounds_toArray, List.set_cons_zero, List.set_cons_succ]
                  refine wpAny_skip 21 (some 72) rfl rfl (by kernel_rfl) (by kernel_rfl) (by kernel_rfl) (fun _ _ _ h => h) (by kernel_rfl) ?_
                  simp only [Act.put, List.setIfInBounds_toArray, List.set_cons_zero, List.set_cons_succ]
                  refine wpAny_skip 22 (some 73) rfl rfl (by kernel_rfl) (by kernel_rfl) (by kernel_rfl) (fun _ _ _ h => h) (by kernel_rfl) ?_
                  simp only [Act.put, List.setIfInBounds_toArray, List.set_cons_zero, List.set_cons_succ]
                  refine wpAny_skip 23 (some 74) rfl rfl (by kernel_rfl) (by kernel_rfl) (by kernel_rfl) (fun _ _ _ h => h) (by kernel_rfl) ?_
                  simp only [Act.put, List.setIfInBounds_toArray, List.set_cons_zero, List.set_cons_succ]
                  refine wpAny_skip 24 (some 75) rfl rfl (by kernel_rfl) (by kernel_rfl) (by kernel_rfl) (fun _ _ _ h => h) (by kernel_rfl) ?_
                  simp only [Act.put, List.setIfInBounds_toArray, List.set_cons_zero, List.set_cons_succ]
                  refine wpAny_skip 25 (some 76) rfl rfl (by kernel_rfl) (by kernel_rfl) (by kernel_rfl) (fun _ _ _ h => h) (by kernel_rfl) ?_
                  simp only [Act.put, List.setIfInBounds_toArray, List.set_cons_zero, List.set_cons_succ]
                  refine wpAny_skip 26 (some 77) rfl rfl (by kernel_rfl) (by kernel_rfl) (by kernel_rfl) (fun _ _ _ h => h) (by kernel_rfl) ?_
                  simp only [Act.put, List.setIfInBounds_toArray, List.set_cons_zero, List.set_cons_succ]
                  refine wpAny_at (i := 27) (v := .bool false) (some 78) rfl rfl (by kernel_rfl) (by kernel_rfl) (by kernel_rfl) (fun _ _ _ h => h) (by kernel_rfl) (fun _ => ex_pick _ _ _ false (undef) (.bool false) rfl (by kernel_rfl) (by kernel_rfl) (by kernel_rfl)) ?_
                  simp only [Act.put, List.setIfInBounds_toArray, List.set_cons_zero, List.set_cons_succ]
                  refine wpAny_done (by kernel_rfl) ?_ _
                  go_wp2_with fail
                  have HR7 := Lib.hid (HR4.out.of_block (hb7.block _ HR4.out.lt))
                  have HG7 := Lib.hid (HG4.out.of_block (hb7.block _ HG4.out.lt))
                  have HA7 := Lib.hid (HA4.out.keep (hb7.block _ hq4))
                  have HB7 := Lib.hid (HB4.out.trans (hb7.mono HB4.out.size))
                  have HRE : Hid (w7.rowIs N 4 (s.size + 1) (fun j => .bool (if j < m + 1 + 1 then advF x s g j else false))) := HR7.out.congr fun j hj => by
                    by_cases h : j = m + 1
                    · rw [if_pos h, if_pos (by omega), h, HVE.out]
                    · rw [if_neg h]
                      by_cases h2 : j < m + 1
                      · rw [if_pos h2, if_pos (by omega)]
                      · rw [if_neg h2, if_neg (by omega)]
                  go_roundg (s.size + 1 - (m + 1 + 1))
                  case measure => omega
                  case rel => exact ⟨m + 1 + 1, by omega, by go_num, HRE.out, HG7.out, HA7.out, HB7.out, Nat.le_refl _⟩
                | true =>
                  rw [hpx] at HV
                  have HC := HC0
                  rw [hpx] at HC
                  cases hfi : g m with
                  | true =>
                    rw [hfi] at HV
                    have HVE : Hid (advF x s g (m + 1) = true) := by
                      show _ = _
                      rw [HV.out]
                      exact Bool.or_true _
                    refine wp_region_at 28 #[false, false, false, false, false, false, false, false, false, false, false, false, false, false, false, false, false, false, false, false, false, false, false, false, false, false, false, false] rfl rfl (by kernel_rfl) ?_
                    refine wpAny_at (i := 0) (v := .int .i64 ((m : Int) + 1)) (some 51) rfl rfl (by kernel_rfl) (by kernel_rfl) (by kernel_rfl) (fun _ _ _ h => h) (by kernel_rfl) (fun _ => ex_move _ _ rfl (by kernel_rfl)) ?_
                    simp only [Act.put, List.setIfInBounds_toArray, List.set_cons_zero, List.set_cons_succ]
                    refine wpAny_at (i := 1) (v := .bool true) (some 52) rfl rfl (by kernel_rfl) (by kernel_rfl) (by kernel_rfl) (fun _ _ _ h => h) (by kernel_rfl) (fun _ => ex_binOp .gtr 3 _ _ _ (.int .i64 ((m : Int) + 1)) (.int .i64 0) _ rfl (by kernel_rfl) (by kernel_rfl) (HGT.out _)) ?_
                    simp only [Act.put, List.setIfInBounds_toArray, List.set_cons_zero, List.set_cons_succ]
                    refine wpAny_at (i := 2) (v := .bool true) (some 53) rfl rfl (by kernel_rfl) (by kernel_rfl) (by kernel_rfl) (fun _ _ _ h => h) (by kernel_rfl) (fun _ => ex_move _ _ rfl (by kernel_rfl)) ?_
                    simp only [Act.put, List.setIfInBounds_toArray, List.set_cons_zero, List.set_cons_succ]
                    refine wpAny_at (i := 4) (v := .string s) (some 55) rfl rfl (by kernel_rfl) (by kernel_rfl) (by kernel_rfl) (fun _ _ _ h => h) (by kernel_rfl) (fun _ => ex_move _ _ rfl (by kernel_rfl)) ?_
                    simp only [Act.put, List.setIfInBounds_toArray, List.set_cons_zero, List.set_cons_succ]
                    refine wpAny_at (i := 5) (v := .int .i64 ((m : Int) + 1)) (some 56) rfl rfl (by kernel_rfl) (by kernel_rfl) (by kernel_rfl) (fun _ _ _ h => h) (by kernel_rfl) (fun _ => ex_move _ _ rfl (by kernel_rfl)) ?_
                    simp only [Act.put, List.setIfInBounds_toArray, List.set_cons_zero, List.set_cons_succ]
                    refine wpAny_at (i := 6) (v := .int .i64 m) (some 57) rfl rfl (by kernel_rfl) (by kernel_rfl) (by kernel_rfl) (fun _ _ _ h => h) (by kernel_rfl) (fun _ => ex_binOp .sub 3 _ _ _ (.int .i64 ((m : Int) + 1)) (.int .i64 1) _ rfl (by kernel_rfl) (by kernel_rfl) (HSB.out _)) ?_
                    simp only [Act.put, List.setIfInBounds_toArray, List.set_cons_zero, List.set_cons_succ]
                    refine wpAny_at (i := 7) (v := .int .u8 (s[m].toNat)) (some 58) rfl rfl (by kernel_rfl) (by kernel_rfl) (by kernel_rfl) (fun _ _ _ h => h) (by kernel_rfl) (fun _ => ex_index 9 _ _ (.string s) (.int .i64 m) _ rfl (by kernel_rfl) (by kernel_rfl) (HIX.out _)) ?_
                    simp only [Act.put, List.setIfInBounds_toArray, List.set_cons_zero, List.set_cons_succ]
                    refine wpAny_val 3 (some 54) (.agg (atC x).toArray) (by kernel_rfl) rfl rfl (by kernel_rfl) (ex_load 26 _ (.pointer (some ⟨q, 0, none⟩)) _ rfl (by kernel_rfl) (HLD.out)) ?_
                    simp only [Act.put, List.setIfInBounds_toArray, List.set_cons_zero, List.set_cons_succ]
                    refine wpAny_call 8 (some 59) (by kernel_rfl) rfl rfl (by kernel_rfl) 82 (#[.agg (atC x).toArray, .int .u8 (s[m].toNat)]) (by go_simp) (HC.out _) ?_
                    rintro e w7 ⟨rfl, hb7⟩
                    refine ⟨_, rfl, ?_⟩
                    have qa := (HG4.out.of_block (hb7.block _ HG4.out.lt)).cell (i := m) (by omega)
                    have qn := (HR4.out.of_block (hb7.block _ HR4.out.lt)).cell (i := m) (by omega)
                    have qy := (HA4.out.keep (hb7.block _ hq4)).many
                    rw [if_neg (by omega), if_pos (by omega)] at qn
                    rw [hfi] at qa
                    have rf7 := (HR4.out.of_block (hb7.block _ HR4.out.lt)).frozen (m + 1)
                    have r7 := (HR4.out.of_block (hb7.block _ HR4.out.lt)).cell (i := m + 1) hil
                    rw [if_pos rfl] at r7
                    change wpAny _ _ _ _ _ _ (Act.put _ (some 59) _) _
                    simp only [Act.put, List.setIfInBounds_toArray, List.set_cons_zero, List.set_cons_succ]
                    refine wpAny_at (i := 9) (v := .bool true) (some 60) rfl rfl (by kernel_rfl) (by kernel_rfl) (by kernel_rfl) (fun _ _ _ h => h) (by kernel_rfl) (fun _ => ex_pick _ _ _ true (.bool true) (.bool false) rfl (by kernel_rfl) (by kernel_rfl) (by kernel_rfl)) ?_
                    simp only [Act.put, List.setIfInBounds_toArray, List.set_cons_zero, List.set_cons_succ]
                    refine wpAny_at (i := 10) (v := .bool true) (some 61) rfl rfl (by kernel_rfl) (by kernel_rfl) (by kernel_rfl) (fun _ _ _ h => h) (by kernel_rfl) (fun _ => ex_move _ _ rfl (by kernel_rfl)) ?_
                    simp only [Act.put, List.setIfInBounds_toArray, List.set_cons_zero, List.set_cons_succ]
                    refine wpAny_at (i := 11) (v := .slice (some ⟨b, 0, none⟩) (s.size + 1) (s.size + 1)) (some 62) rfl rfl (by kernel_rfl) (by kernel_rfl) (by kernel_rfl) (fun _ _ _ h => h) (by kernel_rfl) (fun _ => ex_move _ _ rfl (by kernel_rfl)) ?_
                    simp only [Act.put, List.setIfInBounds_toArray, List.set_cons_zero, List.set_cons_succ]
                    refine wpAny_at (i := 12) (v := .int .i64 ((m : Int) + 1)) (some 63) rfl rfl (by kernel_rfl) (by kernel_rfl) (by kernel_rfl) (fun _ _ _ h => h) (by kernel_rfl) (fun _ => ex_move _ _ rfl (by kernel_rfl)) ?_
                    simp only [Act.put, List.setIfInBounds_toArray, List.set_cons_zero, List.set_cons_succ]
                    refine wpAny_at (i := 13) (v := .int .i64 m) (some 64) rfl rfl (by kernel_rfl) (by kernel_rfl) (by kernel_rfl) (fun _ _ _ h => h) (by kernel_rfl) (fun _ => ex_binOp .sub 3 _ _ _ (.int .i64 ((m : Int) + 1)) (.int .i64 1) _ rfl (by kernel_rfl) (by kernel_rfl) (HSB.out _)) ?_
                    simp only [Act.put, List.setIfInBounds_toArray, List.set_cons_zero, List.set_cons_succ]
                    refine wpAny_at (i := 14) (v := .pointer (some ⟨b, m, none⟩)) (some 65) rfl rfl (by kernel_rfl) (by kernel_rfl) (by kernel_rfl) (fun _ _ _ h => h) (by kernel_rfl) (fun _ => ex_indexAddr 86 _ _ (.slice (some ⟨b, 0, none⟩) (s.size + 1) (s.size + 1)) (.int .i64 m) _ rfl (by kernel_rfl) (by kernel_rfl) (HIB.out _)) ?_
                    simp only [Act.put, List.setIfInBounds_toArray, List.set_cons_zero, List.set_cons_succ]
                    refine wpAny_val 15 (some 66) (.bool true) (by kernel_rfl) rfl rfl (by kernel_rfl) (ex_load 4 _ (.pointer (some ⟨b, m, none⟩)) _ rfl (by kernel_rfl) (by go_simp)) ?_
                    simp only [Act.put, List.setIfInBounds_toArray, List.set_cons_zero, List.set_cons_succ]
                    refine wpAny_at (i := 16) (v := .bool true) (some 67) rfl rfl (by kernel_rfl) (by kernel_rfl) (by kernel_rfl) (fun _ _ _ h => h) (by kernel_rfl) (fun _ => ex_move _ _ rfl (by kernel_rfl)) ?_
                    simp only [Act.put, List.setIfInBounds_toArray, List.set_cons_zero, List.set_cons_succ]
                    refine wpAny_skip 17 (some 68) rfl rfl (by kernel_rfl) (by kernel_rfl) (by kernel_rfl) (fun _ _ _ h => h) (by kernel_rfl) ?_
                    simp only [Act.put, List.setIfInBounds_toArray, List.set_cons_zero, List.set_cons_succ]
                    refine wpAny_skip 18 (some 69) rfl rfl (by kernel_rfl) (by kernel_rfl) (by kernel_rfl) (fun _ _ _ h => h) (by kernel_rfl) ?_
                    simp only [Act.put, List.setIfInBounds_toArray, List.set_cons_zero, List.set_cons_succ]
                    refine wpAny_skip 19 (some 70) rfl rfl (by kernel_rfl) (by kernel_rfl) (by kernel_rfl) (fun _ _ _ h => h) (by kernel_rfl) ?_
                    simp only [Act.put, List.setIfInBounds_toArray, List.set_cons_zero, List.set_cons_succ]
                    refine wpAny_skip 20 (some 71) rfl rfl (by kernel_rfl) (by kernel_rfl) (by kernel_rfl) (fun _ _ _ h => h) (by kernel_rfl) ?_
                    simp only [Act.put, List.setIfInBounds_toArray, List.set_cons_zero, List.set_cons_succ]
                    refine wpAny_skip 21 (some 72) rfl rfl (by kernel_rfl) (by kernel_rfl) (by kernel_rfl) (fun _ _ _ h => h) (by kernel_rfl) ?_
                    simp only [Act.put, List.setIfInBounds_toArray, List.set_cons_zero, List.set_cons_succ]
                    refine wpAny_skip 22 (some 73) rfl rfl (by kernel_rfl) (by kernel_rfl) (by kernel_rfl) (fun _ _ _ h => h) (by kernel_rfl) ?_
                    simp only [Act.put, List.setIfInBounds_toArray, List.set_cons_zero, List.set_cons_succ]
                    refine wpAny_skip 23 (some 74) rfl rfl (by kernel_rfl) (by kernel_rfl) (by kernel_rfl) (fun _ _ _ h => h) (by kernel_rfl) ?_
                    simp only [Act.put, List.setIfInBounds_toArray, List.set_cons_zero, List.set_cons_succ]
                    refine wpAny_skip 24 (some 75) rfl rfl (by kernel_rfl) (by kernel_rfl) (by kernel_rfl) (fun _ _ _ h => h) (by kernel_rfl) ?_
                    simp only [Act.put, List.setIfInBounds_toArray, List.set_cons_zero, List.set_cons_succ]
                    refine wpAny_skip 25 (some 76) rfl rfl (by kernel_rfl) (by kernel_rfl) (by kernel_rfl) (fun _ _ _ h => h) (by kernel_rfl) ?_
                    simp only [Act.put, List.setIfInBounds_toArray, List.set_cons_zero, List.set_cons_succ]
                    refine wpAny_at (i := 26) (v := .bool true) (some 77) rfl rfl (by kernel_rfl) (by kernel_rfl) (by kernel_rfl) (fun _ _ _ h => h) (by kernel_rfl) (fun _ => ex_pick _ _ _ true (.bool true) (undef) rfl (by kernel_rfl) (by kernel_rfl) (by kernel_rfl)) ?_
                    simp only [Act.put, List.setIfInBounds_toArray, List.set_cons_zero, List.set_cons_succ]
                    refine wpAny_at (i := 27) (v := .bool true) (some 78) rfl rfl (by kernel_rfl) (by kernel_rfl) (by kernel_rfl) (fun _ _ _ h => h) (by kernel_rfl) (fun _ => ex_pick _ _ _ true (.bool true) (.bool false) rfl (by kernel_rfl) (by kernel_rfl) (by kernel_rfl)) ?_
                    simp only [Act.put, List.setIfInBounds_toArray, List.set_cons_zero, List.set_cons_succ]
                    refine wpAny_done (by kernel_rfl) ?_ _
                    go_wp2_with fail
                    have HR7 := Lib.hid (HR4.out.of_block (hb7.block _ HR4.out.lt))
                    have HG7 := Lib.hid (HG4.out.of_block (hb7.block _ HG4.out.lt))
                    have HA7 := Lib.hid (HA4.out.keep (hb7.block _ hq4))
                    have HB7 := Lib.hid (HB4.out.trans (hb7.mono HB4.out.size))
                    have HRE : Hid ((w7.setCell ⟨N, m + 1, none⟩ (.bool true)).rowIs N 4 (s.size + 1) (fun j => .bool (if j < m + 1 + 1 then advF x s g j else false))) := (HR7.out.set (m + 1) (.bool true)).congr fun j hj => by
                      by_cases h : j = m + 1
                      · rw [if_pos h, if_pos (by omega), h, HVE.out]
                      · rw [if_neg h, if_neg h]
                        by_cases h2 : j < m + 1
                        · rw [if_pos h2, if_pos (by omega)]
                        · rw [if_neg h2, if_neg (by omega)]
                    go_roundg (s.size + 1 - (m + 1 + 1))
                    case measure => omega
                    case rel => exact ⟨m + 1 + 1, by omega, by go_num, HRE.out, HG7.out.of_block (Below.heap_setCell _ _ _ _ (show b ≠ N by omega)), HA7.out.keep (Below.heap_setCell _ _ _ _ (show q ≠ N by omega)), HB7.out.setCell (p := ⟨N, m + 1, none⟩) (show w.heap.size ≤ N by omega) _, Nat.le_refl _⟩
                  | false =>
                    rw [hfi] at HV
                    cases hmm : x.many with
                    | false =>
                      rw [hmm] at HV
                      have HVE : Hid (advF x s g (m + 1) = gi) := by
                        show _ = _
                        rw [HV.out]
                        exact Bool.or_false _
                      refine wp_region_at 28 #[false, false, false, false, false, false, false, false, false, false, false, false, false, false, false, false, false, false, false, false, false, false, false, false, false, false, false, false] rfl rfl (by kernel_rfl) ?_
                      refine wpAny_at (i := 0) (v := .int .i64 ((m : Int) + 1)) (some 51) rfl rfl (by kernel_rfl) (by kernel_rfl) (by kernel_rfl) (fun _ _ _ h => h) (by kernel_rfl) (fun _ => ex_move _ _ rfl (by kernel_rfl)) ?_
                      simp only [Act.put, List.setIfInBounds_toArray, List.set_cons_zero, List.set_cons_succ]
                      refine wpAny_at (i := 1) (v := .bool true) (some 52) rfl rfl (by kernel_rfl) (by kernel_rfl) (by kernel_rfl) (fun _ _ _ h => h) (by kernel_rfl) (fun _ => ex_binOp .gtr 3 _ _ _ (.int .i64 ((m : Int) + 1)) (.int .i64 0) _ rfl (by kernel_rfl) (by kernel_rfl) (HGT.out _)) ?_
                      simp only [Act.put, List.setIfInBounds_toArray, List.set_cons_zero, List.set_cons_succ]
                      refine wpAny_at (i := 2) (v := .bool true) (some 53) rfl rfl (by kernel_rfl) (by kernel_rfl) (by kernel_rfl) (fun _ _ _ h => h) (by kernel_rfl) (fun _ => ex_move _ _ rfl (by kernel_rfl)) ?_
                      simp only [Act.put, List.setIfInBounds_toArray, List.set_cons_zero, List.set_cons_succ]
                      refine wpAny_at (i := 4) (v := .string s) (some 55) rfl rfl (by kernel_rfl) (by kernel_rfl) (by kernel_rfl) (fun _ _ _ h => h) (by kernel_rfl) (fun _ => ex_move _ _ rfl (by kernel_rfl)) ?_
                      simp only [Act.put, List.setIfInBounds_toArray, List.set_cons_zero, List.set_cons_succ]
                      refine wpAny_at (i := 5) (v := .int .i64 ((m : Int) + 1)) (some 56) rfl rfl (by kernel_rfl) (by kernel_rfl) (by kernel_rfl) (fun _ _ _ h => h) (by kernel_rfl) (fun _ => ex_move _ _ rfl (by kernel_rfl)) ?_
                      simp only [Act.put, List.setIfInBounds_toArray, List.set_cons_zero, List.set_cons_succ]
                      refine wpAny_at (i := 6) (v := .int .i64 m) (some 57) rfl rfl (by kernel_rfl) (by kernel_rfl) (by kernel_rfl) (fun _ _ _ h => h) (by kernel_rfl) (fun _ => ex_binOp .sub 3 _ _ _ (.int .i64 ((m : Int) + 1)) (.int .i64 1) _ rfl (by kernel_rfl) (by kernel_rfl) (HSB.out _)) ?_
                      simp only [Act.put, List.setIfInBounds_toArray, List.set_cons_zero, List.set_cons_succ]
                      refine wpAny_at (i := 7) (v := .int .u8 (s[m].toNat)) (some 58) rfl rfl (by kernel_rfl) (by kernel_rfl) (by kernel_rfl) (fun _ _ _ h => h) (by kernel_rfl) (fun _ => ex_index 9 _ _ (.string s) (.int .i64 m) _ rfl (by kernel_rfl) (by kernel_rfl) (HIX.out _)) ?_
                      simp only [Act.put, List.setIfInBounds_toArray, List.set_cons_zero, List.set_cons_succ]
                      refine wpAny_val 3 (some 54) (.agg (atC x).toArray) (by kernel_rfl) rfl rfl (by kernel_rfl) (ex_load 26 _ (.pointer (some ⟨q, 0, none⟩)) _ rfl (by kernel_rfl) (HLD.out)) ?_
                      simp only [Act.put, List.setIfInBounds_toArray, List.set_cons_zero, List.set_cons_succ]
                      refine wpAny_call 8 (some 59) (by kernel_rfl) rfl rfl (by kernel_rfl) 82 (#[.agg (atC x).toArray, .int .u8 (s[m].toNat)]) (by go_simp) (HC.out _) ?_
                      rintro e w7 ⟨rfl, hb7⟩
                      refine ⟨_, rfl, ?_⟩
                      have qa := (HG4.out.of_block (hb7.block _ HG4.out.lt)).cell (i := m) (by omega)
                      have qn := (HR4.out.of_block (hb7.block _ HR4.out.lt)).cell (i := m) (by omega)
                      have qy := (HA4.out.keep (hb7.block _ hq4)).many
                      rw [if_neg (by omega), if_pos (by omega)] at qn
                      rw [hfi] at qa
                      rw [hmm] at qy
                      have rf7 := (HR4.out.of_block (hb7.block _ HR4.out.lt)).frozen (m + 1)
                      have r7 := (HR4.out.of_block (hb7.block _ HR4.out.lt)).cell (i := m + 1) hil
                      rw [if_pos rfl] at r7
                      change wpAny _ _ _ _ _ _ (Act.put _ (some 59) _) _
                      simp only [Act.put, List.setIfInBounds_toArray, List.set_cons_zero, List.set_cons_succ]
                      refine wpAny_at (i := 9) (v := .bool true) (some 60) rfl rfl (by kernel_rfl) (by kernel_rfl) (by kernel_rfl) (fun _ _ _ h => h) (by kernel_rfl) (fun _ => ex_pick _ _ _ true (.bool true) (.bool false) rfl (by kernel_rfl) (by kernel_rfl) (by kernel_rfl)) ?_
                      simp only [Act.put, List.setIfInBounds_toArray, List.set_cons_zero, List.set_cons_succ]
                      refine wpAny_at (i := 10) (v := .bool true) (some 61) rfl rfl (by kernel_rfl) (by kernel_rfl) (by kernel_rfl) (fun _ _ _ h => h) (by kernel_rfl) (fun _ => ex_move _ _ rfl (by kernel_rfl)) ?_
                      simp only [Act.put, List.setIfInBounds_toArray, List.set_cons_zero, List.set_cons_succ]
                      refine wpAny_at (i := 11) (v := .slice (some ⟨b, 0, none⟩) (s.size + 1) (s.size + 1)) (some 62) rfl rfl (by kernel_rfl) (by kernel_rfl) (by kernel_rfl) (fun _ _ _ h => h) (by kernel_rfl) (fun _ => ex_move _ _ rfl (by kernel_rfl)) ?_
                      simp only [Act.put, List.setIfInBounds_toArray, List.set_cons_zero, List.set_cons_succ]
                      refine wpAny_at (i := 12) (v := .int .i64 ((m : Int) + 1)) (some 63) rfl rfl (by kernel_rfl) (by kernel_rfl) (by kernel_rfl) (fun _ _ _ h => h) (by kernel_rfl) (fun _ => ex_move _ _ rfl (by kernel_rfl)) ?_
                      simp only [Act.put, List.setIfInBounds_toArray, List.set_cons_zero, List.set_cons_succ]
                      refine wpAny_at (i := 13) (v := .int .i64 m) (some 64) rfl rfl (by kernel_rfl) (by kernel_rfl) (by kernel_rfl) (fun _ _ _ h => h) (by kernel_rfl) (fun _ => ex_binOp .sub 3 _ _ _ (.int .i64 ((m : Int) + 1)) (.int .i64 1) _ rfl (by kernel_rfl) (by kernel_rfl) (HSB.out _)) ?_
                      simp only [Act.put, List.setIfInBounds_toArray, List.set_cons_zero, List.set_cons_succ]
                      refine wpAny_at (i := 14) (v := .pointer (some ⟨b, m, none⟩)) (some 65) rfl rfl (by kernel_rfl) (by kernel_rfl) (by kernel_rfl) (fun _ _ _ h => h) (by kernel_rfl) (fun _ => ex_indexAddr 86 _ _ (.slice (some ⟨b, 0, none⟩) (s.size + 1) (s.size + 1)) (.int .i64 m) _ rfl (by kernel_rfl) (by kernel_rfl) (HIB.out _)) ?_
                      simp only [Act.put, List.setIfInBounds_toArray, List.set_cons_zero, List.set_cons_succ]
                      refine wpAny_val 15 (some 66) (.bool false) (by kernel_rfl) rfl rfl (by kernel_rfl) (ex_load 4 _ (.pointer (some ⟨b, m, none⟩)) _ rfl (by kernel_rfl) (by go_simp)) ?_
                      simp only [Act.put, List.setIfInBounds_toArray, List.set_cons_zero, List.set_cons_succ]
                      refine wpAny_at (i := 16) (v := .bool false) (some 67) rfl rfl (by kernel_rfl) (by kernel_rfl) (by kernel_rfl) (fun _ _ _ h => h) (by kernel_rfl) (fun _ => ex_move _ _ rfl (by kernel_rfl)) ?_
                      simp only [Act.put, List.setIfInBounds_toArray, List.set_cons_zero, List.set_cons_succ]
                      refine wpAny_at (i := 17) (v := .pointer (some ⟨q, 33, none⟩)) (some 68) rfl rfl (by kernel_rfl) (by kernel_rfl) (by kernel_rfl) (fun _ _ _ h => h) (by kernel_rfl) (fun _ => ex_fieldAddr 26 _ 2 (.pointer (some ⟨q, 0, none⟩)) _ rfl (by kernel_rfl) (by go_simp)) ?_
                      simp only [Act.put, List.setIfInBounds_toArray, List.set_cons_zero, List.set_cons_succ]
                      refine wpAny_val 18 (some 69) (.bool false) (by kernel_rfl) rfl rfl (by kernel_rfl) (ex_load 4 _ (.pointer (some ⟨q, 33, none⟩)) _ rfl (by kernel_rfl) (by go_simp)) ?_
                      simp only [Act.put, List.setIfInBounds_toArray, List.set_cons_zero, List.set_cons_succ]
                      refine wpAny_at (i := 19) (v := .bool false) (some 70) rfl rfl (by kernel_rfl) (by kernel_rfl) (by kernel_rfl) (fun _ _ _ h => h) (by kernel_rfl) (fun _ => ex_move _ _ rfl (by kernel_rfl)) ?_
                      simp only [Act.put, List.setIfInBounds_toArray, List.set_cons_zero, List.set_cons_succ]
                      refine wpAny_skip 20 (some 71) rfl rfl (by kernel_rfl) (by kernel_rfl) (by kernel_rfl) (fun _ _ _ h => h) (by kernel_rfl) ?_
                      simp only [Act.put, List.setIfInBounds_toArray, List.set_cons_zero, List.set_cons_succ]
                      refine wpAny_skip 21 (some 72) rfl rfl (by kernel_rfl) (by kernel_rfl) (by kernel_rfl) (fun _ _ _ h => h) (by kernel_rfl) ?_
                      simp only [Act.put, List.setIfInBounds_toArray, List.set_cons_zero, List.set_cons_succ]
                      refine wpAny_skip 22 (some 73) rfl rfl (by kernel_rfl) (by kernel_rfl) (by kernel_rfl) (fun _ _ _ h => h) (by kernel_rfl) ?_
                      simp only [Act.put, List.setIfInBounds_toArray, List.set_cons_zero, List.set_cons_succ]
                      refine wpAny_skip 23 (some 74) rfl rfl (by kernel_rfl) (by kernel_rfl) (by kernel_rfl) (fun _ _ _ h => h) (by kernel_rfl) ?_
                      simp only [Act.put, List.setIfInBounds_toArray, List.set_cons_zero, List.set_cons_succ]
                      refine wpAny_skip 24 (some 75) rfl rfl (by kernel_rfl) (by kernel_rfl) (by kernel_rfl) (fun _ _ _ h => h) (by kernel_rfl) ?_
                      simp only [Act.put, List.setIfInBounds_toArray, List.set_cons_zero, List.set_cons_succ]
                      refine wpAny_at (i := 25) (v := .bool false) (some 76) rfl rfl (by kernel_rfl) (by kernel_rfl) (by kernel_rfl) (fun _ _ _ h => h) (by kernel_rfl) (fun _ => ex_pick _ _ _ false (undef) (.bool false) rfl (by kernel_rfl) (by kernel_rfl) (by kernel_rfl)) ?_
                      simp only [Act.put, List.setIfInBounds_toArray, List.set_cons_zero, List.set_cons_succ]
                      refine wpAny_at (i := 26) (v := .bool false) (some 77) rfl rfl (by kernel_rfl) (by kernel_rfl) (by kernel_rfl) (fun _ _ _ h => h) (by kernel_rfl) (fun _ => ex_pick _ _ _ false (.bool true) (.bool false) rfl (by kernel_rfl) (by kernel_rfl) (by kernel_rfl)) ?_
                      simp only [Act.put, List.setIfInBounds_toArray, List.set_cons_zero, List.set_cons_succ]
                      refine wpAny_at (i := 27) (v := .bool false) (some 78) rfl rfl (by kernel_rfl) (by kernel_rfl) (by kernel_rfl) (fun _ _ _ h => h) (by kernel_rfl) (fun _ => ex_pick _ _ _ true (.bool false) (.bool false) rfl (by kernel_rfl) (by kernel_rfl) (by kernel_rfl)) ?_
                      simp only [Act.put, List.setIfInBounds_toArray, List.set_cons_zero, List.set_cons_succ]
                      refine wpAny_done (by kernel_rfl) ?_ _
                      go_wp2_with fail
                      have HR7 := Lib.hid (HR4.out.of_block (hb7.block _ HR4.out.lt))
                      have HG7 := Lib.hid (HG4.out.of_block (hb7.block _ HG4.out.lt))
                      have HA7 := Lib.hid (HA4.out.keep (hb7.block _ hq4))
                      have HB7 := Lib.hid (HB4.out.trans (hb7.mono HB4.out.size))
                      have HRE : Hid (w7.rowIs N 4 (s.size + 1) (fun j => .bool (if j < m + 1 + 1 then advF x s g j else false))) := HR7.out.congr fun j hj => by
                        by_cases h : j = m + 1
                        · rw [if_pos h, if_pos (by omega), h, HVE.out]
                        · rw [if_neg h]
                          by_cases h2 : j < m + 1
                          · rw [if_pos h2, if_pos (by omega)]
                          · rw [if_neg h2, if_neg (by omega)]
                      go_roundg (s.size + 1 - (m + 1 + 1))
                      case measure => omega
                      case rel => exact ⟨m + 1 + 1, by omega, by go_num, HRE.out, HG7.out, HA7.out, HB7.out, Nat.le_refl _⟩
                    | true =>
                      rw [hmm] at HV
                      cases hni : advF x s g m with
                      | true =>
                        rw [hni] at HV
                        have HVE : Hid (advF x s g (m + 1) = true) := by
                          show _ = _
                          rw [HV.out]
                          exact Bool.or_true _
                        refine wp_region_at 28 #[false, false, false, false, false, false, false, false, false, false, false, false, false, false, false, false, false, false, false, false, false, false, false, false, false, false, false, false] rfl rfl (by kernel_rfl) ?_
                        refine wpAny_at (i := 0) (v := .int .i64 ((m : Int) + 1)) (some 51) rfl rfl (by kernel_rfl) (by kernel_rfl) (by kernel_rfl) (fun _ _ _ h => h) (by kernel_rfl) (fun _ => ex_move _ _ rfl (by kernel_rfl)) ?_
                        simp only [Act.put, List.setIfInBounds_toArray, List.set_cons_zero, List.set_cons_succ]
                        refine wpAny_at (i := 1) (v := .bool true) (some 52) rfl rfl (by kernel_rfl) (by kernel_rfl) (by kernel_rfl) (fun _ _ _ h => h) (by kernel_rfl) (fun _ => ex_binOp .gtr 3 _ _ _ (.int .i64 ((m : Int) + 1)) (.int .i64 0) _ rfl (by kernel_rfl) (by kernel_rfl) (HGT.out _)) ?_
                        simp only [Act.put, List.setIfInBounds_toArray, List.set_cons_zero, List.set_cons_succ]
                        refine wpAny_at (i := 2) (v := .bool true) (some 53) rfl rfl (by kernel_rfl) (by kernel_rfl) (by kernel_rfl) (fun _ _ _ h => h) (by kernel_rfl) (fun _ => ex_move _ _ rfl (by kernel_rfl)) ?_
                        simp only [Act.put, List.setIfInBounds_toArray, List.set_cons_zero, List.set_cons_succ]
                        refine wpAny_at (i := 4) (v := .string s) (some 55) rfl rfl (by kernel_rfl) (by kernel_rfl) (by kernel_rfl) (fun _ _ _ h => h) (by kernel_rfl) (fun _ => ex_move _ _ rfl (by kernel_rfl)) ?_
                        simp only [Act.put, List.setIfInBounds_toArray, List.set_cons_zero, List.set_cons_succ]
                        refine wpAny_at (i := 5) (v := .int .i64 ((m : Int) + 1)) (some 56) rfl rfl (by kernel_rfl) (by kernel_rfl) (by kernel_rfl) (fun _ _ _ h => h) (by kernel_rfl) (fun _ => ex_move _ _ rfl (by kernel_rfl)) ?_
                        simp only [Act.put, List.setIfInBounds_toArray, List.set_cons_zero, List.set_cons_succ]
                        refine wpAny_at (i := 6) (v := .int .i64 m) (some 57) rfl rfl (by kernel_rfl) (by kernel_rfl) (by kernel_rfl) (fun _ _ _ h => h) (by kernel_rfl) (fun _ => ex_binOp .sub 3 _ _ _ (.int .i64 ((m : Int) + 1)) (.int .i64 1) _ rfl (by kernel_rfl) (by kernel_rfl) (HSB.out _)) ?_
                        simp only [Act.put, List.setIfInBounds_toArray, List.set_cons_zero, List.set_cons_succ]
                        refine wpAny_at (i := 7) (v := .int .u8 (s[m].toNat)) (some 58) rfl rfl (by kernel_rfl) (by kernel_rfl) (by kernel_rfl) (fun _ _ _ h => h) (by kernel_rfl) (fun _ => ex_index 9 _ _ (.string s) (.int .i64 m) _ rfl (by kernel_rfl) (by kernel_rfl) (HIX.out _)) ?_
                        simp only [Act.put, List.setIfInBounds_toArray, List.set_cons_zero, List.set_cons_succ]
                        refine wpAny_val 3 (some 54) (.agg (atC x).toArray) (by kernel_rfl) rfl rfl (by kernel_rfl) (ex_load 26 _ (.pointer (some ⟨q, 0, none⟩)) _ rfl (by kernel_rfl) (HLD.out)) ?_
                        simp only [Act.put, List.setIfInBounds_toArray, List.set_cons_zero, List.set_cons_succ]
                        refine wpAny_call 8 (some 59) (by kernel_rfl) rfl rfl (by kernel_rfl) 82 (#[.agg (atC x).toArray, .int .u8 (s[m].toNat)]) (by go_simp) (HC.out _) ?_
                        rintro e w7 ⟨rfl, hb7⟩
                        refine ⟨_, rfl, ?_⟩
                        have qa := (HG4.out.of_block (hb7.block _ HG4.out.lt)).cell (i := m) (by omega)
                        have qn := (HR4.out.of_block (hb7.block _ HR4.out.lt)).cell (i := m) (by omega)
                        have qy := (HA4.out.keep (hb7.block _ hq4)).many
                        rw [if_neg (by omega), if_pos (by omega)] at qn
                        rw [hfi] at qa
                        rw [hmm] at qy
                        rw [hni] at qn
                        have rf7 := (HR4.out.of_block (hb7.block _ HR4.out.lt)).frozen (m + 1)
                        have r7 := (HR4.out.of_block (hb7.block _ HR4.out.lt)).cell (i := m + 1) hil
                        rw [if_pos rfl] at r7
                        change wpAny _ _ _ _ _ _ (Act.put _ (some 59) _) _
                        simp only [Act.put, List.setIfInBounds_toArray, List.set_cons_zero, List.set_cons_succ]
                        refine wpAny_at (i := 9) (v := .bool true) (some 60) rfl rfl (by kernel_rfl) (by kernel_rfl) (by kernel_rfl) (fun _ _ _ h => h) (by kernel_rfl) (fun _ => ex_pick _ _ _ true (.bool true) (.bool false) rfl (by kernel_rfl) (by kernel_rfl) (by kernel_rfl)) ?_
                        simp only [Act.put, List.setIfInBounds_toArray, List.set_cons_zero, List.set_cons_succ]
                        refine wpAny_at (i := 10) (v := .bool true) (some 61) rfl rfl (by kernel_rfl) (by kernel_rfl) (by kernel_rfl) (fun _ _ _ h => h) (by kernel_rfl) (fun _ => ex_move _ _ rfl (by kernel_rfl)) ?_
                        simp only [Act.put, List.setIfInBounds_toArray, List.set_cons_zero, List.set_cons_succ]
                        refine wpAny_at (i := 11) (v := .slice (some ⟨b, 0, none⟩) (s.size + 1) (s.size + 1)) (some 62) rfl rfl (by kernel_rfl) (by kernel_rfl) (by kernel_rfl) (fun _ _ _ h => h) (by kernel_rfl) (fun _ => ex_move _ _ rfl (by kernel_rfl)) ?_
                        simp only [Act.put, List.setIfInBounds_toArray, List.set_cons_zero, List.set_cons_succ]
                        refine wpAny_at (i := 12) (v := .int .i64 ((m : Int) + 1)) (some 63) rfl rfl (by kernel_rfl) (by kernel_rfl) (by kernel_rfl) (fun _ _ _ h => h) (by kernel_rfl) (fun _ => ex_move _ _ rfl (by kernel_rfl)) ?_
                        simp only [Act.put, List.setIfInBounds_toArray, List.set_cons_zero, List.set_cons_succ]
                        refine wpAny_at (i := 13) (v := .int .i64 m) (some 64) rfl rfl (by kernel_rfl) (by kernel_rfl) (by kernel_rfl) (fun _ _ _ h => h) (by kernel_rfl) (fun _ => ex_binOp .sub 3 _ _ _ (.int .i64 ((m : Int) + 1)) (.int .i64 1) _ rfl (by kernel_rfl) (by kernel_rfl) (HSB.out _)) ?_
                        simp only [Act.put, List.setIfInBounds_toArray, List.set_cons_zero, List.set_cons_succ]
                        refine wpAny_at (i := 14) (v := .pointer (some ⟨b, m, none⟩)) (some 65) rfl rfl (by kernel_rfl) (by kernel_rfl) (by kernel_rfl) (fun _ _ _ h => h) (by kernel_rfl) (fun _ => ex_indexAddr 86 _ _ (.slice (some ⟨b, 0, none⟩) (s.size + 1) (s.size + 1)) (.int .i64 m) _ rfl (by kernel_rfl) (by kernel_rfl) (HIB.out _)) ?_
                        simp only [Act.put, List.setIfInBounds_toArray, List.set_cons_zero, List.set_cons_succ]
                        refine wpAny_val 15 (some 66) (.bool false) (by kernel_rfl) rfl rfl (by kernel_rfl) (ex_load 4 _ (.pointer (some ⟨b, m, none⟩)) _ rfl (by kernel_rfl) (by go_simp)) ?_
                        simp only [Act.put, List.setIfInBounds_toArray, List.set_cons_zero, List.set_cons_succ]
                        refine wpAny_at (i := 16) (v := .bool false) (some 67) rfl rfl (by kernel_rfl) (by kernel_rfl) (by kernel_rfl) (fun _ _ _ h => h) (by kernel_rfl) (fun _ => ex_move _ _ rfl (by kernel_rfl)) ?_
                        simp only [Act.put, List.setIfInBounds_toArray, List.set_cons_zero, List.set_cons_succ]
                        refine wpAny_at (i := 17) (v := .pointer (some ⟨q, 33, none⟩)) (some 68) rfl rfl (by kernel_rfl) (by kernel_rfl) (by kernel_rfl) (fun _ _ _ h => h) (by kernel_rfl) (fun _ => ex_fieldAddr 26 _ 2 (.pointer (some ⟨q, 0, none⟩)) _ rfl (by kernel_rfl) (by go_simp)) ?_
                        simp only [Act.put, List.setIfInBounds_toArray, List.set_cons_zero, List.set_cons_succ]
                        refine wpAny_val 18 (some 69) (.bool true) (by kernel_rfl) rfl rfl (by kernel_rfl) (ex_load 4 _ (.pointer (some ⟨q, 33, none⟩)) _ rfl (by kernel_rfl) (by go_simp)) ?_
                        simp only [Act.put, List.setIfInBounds_toArray, List.set_cons_zero, List.set_cons_succ]
                        refine wpAny_at (i := 19) (v := .bool true) (some 70) rfl rfl (by kernel_rfl) (by kernel_rfl) (by kernel_rfl) (fun _ _ _ h => h) (by kernel_rfl) (fun _ => ex_move _ _ rfl (by kernel_rfl)) ?_
                        simp only [Act.put, List.setIfInBounds_toArray, List.set_cons_zero, List.set_cons_succ]
                        refine wpAny_at (i := 20) (v := .slice (some ⟨N, 0, none⟩) (s.size + 1) (s.size + 1)) (some 71) rfl rfl (by kernel_rfl) (by kernel_rfl) (by kernel_rfl) (fun _ _ _ h => h) (by kernel_rfl) (fun _ => ex_move _ _ rfl (by kernel_rfl)) ?_
                        simp only [Act.put, List.setIfInBounds_toArray, List.set_cons_zero, List.set_cons_succ]
                        refine wpAny_at (i := 21) (v := .int .i64 ((m : Int) + 1)) (some 72) rfl rfl (by kernel_rfl) (by kernel_rfl) (by kernel_rfl) (fun _ _ _ h => h) (by kernel_rfl) (fun _ => ex_move _ _ rfl (by kernel_rfl)) ?_
                        simp only [Act.put, List.setIfInBounds_toArray, List.set_cons_zero, List.set_cons_succ]
                        refine wpAny_at (i := 22) (v := .int .i64 m) (some 73) rfl rfl (by kernel_rfl) (by kernel_rfl) (by kernel_rfl) (fun _ _ _ h => h) (by kernel_rfl) (fun _ => ex_binOp .sub 3 _ _ _ (.int .i64 ((m : Int) + 1)) (.int .i64 1) _ rfl (by kernel_rfl) (by kernel_rfl) (HSB.out _)) ?_
                        simp only [Act.put, List.setIfInBounds_toArray, List.set_cons_zero, List.set_cons_succ]
                        refine wpAny_at (i := 23) (v := .pointer (some ⟨N, m, none⟩)) (some 74) rfl rfl (by kernel_rfl) (by kernel_rfl) (by kernel_rfl) (fun _ _ _ h => h) (by kernel_rfl) (fun _ => ex_indexAddr 86 _ _ (.slice (some ⟨N, 0, none⟩) (s.size + 1) (s.size + 1)) (.int .i64 m) _ rfl (by kernel_rfl) (by kernel_rfl) (HIN.out _)) ?_
                        simp only [Act.put, List.setIfInBounds_toArray, List.set_cons_zero, List.set_cons_succ]
                        refine wpAny_val 24 (some 75) (.bool true) (by kernel_rfl) rfl rfl (by kernel_rfl) (ex_load 4 _ (.pointer (some ⟨N, m, none⟩)) _ rfl (by kernel_rfl) (by go_simp)) ?_
                        simp only [Act.put, List.setIfInBounds_toArray, List.set_cons_zero, List.set_cons_succ]
                        refine wpAny_at (i := 25) (v := .bool true) (some 76) rfl rfl (by kernel_rfl) (by kernel_rfl) (by kernel_rfl) (fun _ _ _ h => h) (by kernel_rfl) (fun _ => ex_pick _ _ _ true (.bool true) (.bool false) rfl (by kernel_rfl) (by kernel_rfl) (by kernel_rfl)) ?_
                        simp only [Act.put, List.setIfInBounds_toArray, List.set_cons_zero, List.set_cons_succ]
                        refine wpAny_at (i := 26) (v := .bool true) (some 77) rfl rfl (by kernel_rfl) (by kernel_rfl) (by kernel_rfl) (fun _ _ _ h => h) (by kernel_rfl) (fun _ => ex_pick _ _ _ false (.bool true) (.bool true) rfl (by kernel_rfl) (by kernel_rfl) (by kernel_rfl)) ?_
                        simp only [Act.put, List.setIfInBounds_toArray, List.set_cons_zero, List.set_cons_succ]
                        refine wpAny_at (i := 27) (v := .bool true) (some 78) rfl rfl (by kernel_rfl) (by kernel_rfl) (by kernel_rfl) (fun _ _ _ h => h) (by kernel_rfl) (fun _ => ex_pick _ _ _ true (.bool true) (.bool false) rfl (by kernel_rfl) (by kernel_rfl) (by kernel_rfl)) ?_
                        simp only [Act.put, List.setIfInBounds_toArray, List.set_cons_zero, List.set_cons_succ]
                        refine wpAny_done (by kernel_rfl) ?_ _
                        go_wp2_with fail
                        have HR7 := Lib.hid (HR4.out.of_block (hb7.block _ HR4.out.lt))
                        have HG7 := Lib.hid (HG4.out.of_block (hb7.block _ HG4.out.lt))
                        have HA7 := Lib.hid (HA4.out.keep (hb7.block _ hq4))
                        have HB7 := Lib.hid (HB4.out.trans (hb7.mono HB4.out.size))
                        have HRE : Hid ((w7.setCell ⟨N, m + 1, none⟩ (.bool true)).rowIs N 4 (s.size + 1) (fun j => .bool (if j < m + 1 + 1 then advF x s g j else false))) := (HR7.out.set (m + 1) (.bool true)).congr fun j hj => by
                          by_cases h : j = m + 1
                          · rw [if_pos h, if_pos (by omega), h, HVE.out]
                          · rw [if_neg h, if_neg h]
                            by_cases h2 : j < m + 1
                            · rw [if_pos h2, if_pos (by omega)]
                            · rw [if_neg h2, if_neg (by omega)]
                        go_roundg (s.size + 1 - (m + 1 + 1))
                        case measure => omega
                        case rel => exact ⟨m + 1 + 1, by omega, by go_num, HRE.out, HG7.out.of_block (Below.heap_setCell _ _ _ _ (show b ≠ N by omega)), HA7.out.keep (Below.heap_setCell _ _ _ _ (show q ≠ N by omega)), HB7.out.setCell (p := ⟨N, m + 1, none⟩) (show w.heap.size ≤ N by omega) _, Nat.le_refl _⟩
                      | false =>
                        rw [hni] at HV
                        have HVE : Hid (advF x s g (m + 1) = gi) := by
                          show _ = _
                          rw [HV.out]
                          exact Bool.or_false _
                        refine wp_region_at 28 #[false, false, false, false, false, false, false, false, false, false, false, false, false, false, false, false, false, false, false, false, false, false, false, false, false, false, false, false] rfl rfl (by kernel_rfl) ?_
                        refine wpAny_at (i := 0) (v := .int .i64 ((m : Int) + 1)) (some 51) rfl rfl (by kernel_rfl) (by kernel_rfl) (by kernel_rfl) (fun _ _ _ h => h) (by kernel_rfl) (fun _ => ex_move _ _ rfl (by kernel_rfl)) ?_
                        simp only [Act.put, List.setIfInBounds_toArray, List.set_cons_zero, List.set_cons_succ]
                        refine wpAny_at (i := 1) (v := .bool true) (some 52) rfl rfl (by kernel_rfl) (by kernel_rfl) (by kernel_rfl) (fun _ _ _ h => h) (by kernel_rfl) (fun _ => ex_binOp .gtr 3 _ _ _ (.int .i64 ((m : Int) + 1)) (.int .i64 0) _ rfl (by kernel_rfl) (by kernel_rfl) (HGT.out _)) ?_
                        simp only [Act.put, List.setIfInBounds_toArray, List.set_cons_zero, List.set_cons_succ]
                        refine wpAny_at (i := 2) (v := .bool true) (some 53) rfl rfl (by kernel_rfl) (by kernel_rfl) (by kernel_rfl) (fun _ _ _ h => h) (by kernel_rfl) (fun _ => ex_move _ _ rfl (by kernel_rfl)) ?_
                        simp only [Act.put, List.setIfInBounds_toArray, List.set_cons_zero, List.set_cons_succ]
                        refine wpAny_at (i := 4) (v := .string s) (some 55) rfl rfl (by kernel_rfl) (by kernel_rfl) (by kernel_rfl) (fun _ _ _ h => h) (by kernel_rfl) (fun _ => ex_move _ _ rfl (by kernel_rfl)) ?_
                        simp only [Act.put, List.setIfInBounds_toArray, List.set_cons_zero, List.set_cons_succ]
                        refine wpAny_at (i := 5) (v := .int .i64 ((m : Int) + 1)) (some 56) rfl rfl (by kernel_rfl) (by kernel_rfl) (by kernel_rfl) (fun _ _ _ h => h) (by kernel_rfl) (fun _ => ex_move _ _ rfl (by kernel_rfl)) ?_
                        simp only [Act.put, List.setIfInBounds_toArray, List.set_cons_zero, List.set_cons_succ]
                        refine wpAny_at (i := 6) (v := .int .i64 m) (some 57) rfl rfl (by kernel_rfl) (by kernel_rfl) (by kernel_rfl) (fun _ _ _ h => h) (by kernel_rfl) (fun _ => ex_binOp .sub 3 _ _ _ (.int .i64 ((m : Int) + 1)) (.int .i64 1) _ rfl (by kernel_rfl) (by kernel_rfl) (HSB.out _)) ?_
                        simp only [Act.put, List.setIfInBounds_toArray, List.set_cons_zero, List.set_cons_succ]
                        refine wpAny_at (i := 7) (v := .int .u8 (s[m].toNat)) (some 58) rfl rfl (by kernel_rfl) (by kernel_rfl) (by kernel_rfl) (fun _ _ _ h => h) (by kernel_rfl) (fun _ => ex_index 9 _ _ (.string s) (.int .i64 m) _ rfl (by kernel_rfl) (by kernel_rfl) (HIX.out _)) ?_
                        simp only [Act.put, List.setIfInBounds_toArray, List.set_cons_zero, List.set_cons_succ]
                        refine wpAny_val 3 (some 54) (.agg (atC x).toArray) (by kernel_rfl) rfl rfl (by kernel_rfl) (ex_load 26 _ (.pointer (some ⟨q, 0, none⟩)) _ rfl (by kernel_rfl) (HLD.out)) ?_
                        simp only [Act.put, List.setIfInBounds_toArray, List.set_cons_zero, List.set_cons_succ]
                        refine wpAny_call 8 (some 59) (by kernel_rfl) rfl rfl (by kernel_rfl) 82 (#[.agg (atC x).toArray, .int .u8 (s[m].toNat)]) (by go_simp) (HC.out _) ?_
                        rintro e w7 ⟨rfl, hb7⟩
                        refine ⟨_, rfl, ?_⟩
                        have qa := (HG4.out.of_block (hb7.block _ HG4.out.lt)).cell (i := m) (by omega)
                        have qn := (HR4.out.of_block (hb7.block _ HR4.out.lt)).cell (i := m) (by omega)
                        have qy := (HA4.out.keep (hb7.block _ hq4)).many
                        rw [if_neg (by omega), if_pos (by omega)] at qn
                        rw [hfi] at qa
                        rw [hmm] at qy
                        rw [hni] at qn
                        have rf7 := (HR4.out.of_block (hb7.block _ HR4.out.lt)).frozen (m + 1)
                        have r7 := (HR4.out.of_block (hb7.block _ HR4.out.lt)).cell (i := m + 1) hil
                        rw [if_pos rfl] at r7
                        change wpAny _ _ _ _ _ _ (Act.put _ (some 59) _) _
                        simp only [Act.put, List.setIfInBounds_toArray, List.set_cons_zero, List.set_cons_succ]
                        refine wpAny_at (i := 9) (v := .bool true) (some 60) rfl rfl (by kernel_rfl) (by kernel_rfl) (by kernel_rfl) (fun _ _ _ h => h) (by kernel_rfl) (fun _ => ex_pick _ _ _ true (.bool true) (.bool false) rfl (by kernel_rfl) (by kernel_rfl) (by kernel_rfl)) ?_
                        simp only [Act.put, List.setIfInBounds_toArray, List.set_cons_zero, List.set_cons_succ]
                        refine wpAny_at (i := 10) (v := .bool true) (some 61) rfl rfl (by kernel_rfl) (by kernel_rfl) (by kernel_rfl) (fun _ _ _ h => h) (by kernel_rfl) (fun _ => ex_move _ _ rfl (by kernel_rfl)) ?_
                        simp only [Act.put, List.setIfInBounds_toArray, List.set_cons_zero, List.set_cons_succ]
                        refine wpAny_at (i := 11) (v := .slice (some ⟨b, 0, none⟩) (s.size + 1) (s.size + 1)) (some 62) rfl rfl (by kernel_rfl) (by kernel_rfl) (by kernel_rfl) (fun _ _ _ h => h) (by kernel_rfl) (fun _ => ex_move _ _ rfl (by kernel_rfl)) ?_
                        simp only [Act.put, List.setIfInBounds_toArray, List.set_cons_zero, List.set_cons_succ]
                        refine wpAny_at (i := 12) (v := .int .i64 ((m : Int) + 1)) (some 63) rfl rfl (by kernel_rfl) (by kernel_rfl) (by kernel_rfl) (fun _ _ _ h => h) (by kernel_rfl) (fun _ => ex_move _ _ rfl (by kernel_rfl)) ?_
                        simp only [Act.put, List.setIfInBounds_toArray, List.set_cons_zero, List.set_cons_succ]
                        refine wpAny_at (i := 13) (v := .int .i64 m) (some 64) rfl rfl (by kernel_rfl) (by kernel_rfl) (by kernel_rfl) (fun _ _ _ h => h) (by kernel_rfl) (fun _ => ex_binOp .sub 3 _ _ _ (.int .i64 ((m : Int) + 1)) (.int .i64 1) _ rfl (by kernel_rfl) (by kernel_rfl) (HSB.out _)) ?_
                        simp only [Act.put, List.setIfInBounds_toArray, List.set_cons_zero, List.set_cons_succ]
                        refine wpAny_at (i := 14) (v := .pointer (some ⟨b, m, none⟩)) (some 65) rfl rfl (by kernel_rfl) (by kernel_rfl) (by kernel_rfl) (fun _ _ _ h => h) (by kernel_rfl) (fun _ => ex_indexAddr 86 _ _ (.slice (some ⟨b, 0, none⟩) (s.size + 1) (s.size + 1)) (.int .i64 m) _ rfl (by kernel_rfl) (by kernel_rfl) (HIB.out _)) ?_
                        simp only [Act.put, List.setIfInBounds_toArray, List.set_cons_zero, List.set_cons_succ]
                        refine wpAny_val 15 (some 66) (.bool false) (by kernel_rfl) rfl rfl (by kernel_rfl) (ex_load 4 _ (.pointer (some ⟨b, m, none⟩)) _ rfl (by kernel_rfl) (by go_simp)) ?_
                        simp only [Act.put, List.setIfInBounds_toArray, List.set_cons_zero, List.set_cons_succ]
                        refine wpAny_at (i := 16) (v := .bool false) (some 67) rfl rfl (by kernel_rfl) (by kernel_rfl) (by kernel_rfl) (fun _ _ _ h => h) (by kernel_rfl) (fun _ => ex_move _ _ rfl (by kernel_rfl)) ?_
                        simp only [Act.put, List.setIfInBounds_toArray, List.set_cons_zero, List.set_cons_succ]
                        refine wpAny_at (i := 17) (v := .pointer (some ⟨q, 33, none⟩)) (some 68) rfl rfl (by kernel_rfl) (by kernel_rfl) (by kernel_rfl) (fun _ _ _ h => h) (by kernel_rfl) (fun _ => ex_fieldAddr 26 _ 2 (.pointer (some ⟨q, 0, none⟩)) _ rfl (by kernel_rfl) (by go_simp)) ?_
                        simp only [Act.put, List.setIfInBounds_toArray, List.set_cons_zero, List.set_cons_succ]
                        refine wpAny_val 18 (some 69) (.bool true) (by kernel_rfl) rfl rfl (by kernel_rfl) (ex_load 4 _ (.pointer (some ⟨q, 33, none⟩)) _ rfl (by kernel_rfl) (by go_simp)) ?_
                        simp only [Act.put, List.setIfInBounds_toArray, List.set_cons_zero, List.set_cons_succ]
                        refine wpAny_at (i := 19) (v := .bool true) (some 70) rfl rfl (by kernel_rfl) (by kernel_rfl) (by kernel_rfl) (fun _ _ _ h => h) (by kernel_rfl) (fun _ => ex_move _ _ rfl (by kernel_rfl)) ?_
                        simp only [Act.put, List.setIfInBounds_toArray, List.set_cons_zero, List.set_cons_succ]
                        refine wpAny_at (i := 20) (v := .slice (some ⟨N, 0, none⟩) (s.size + 1) (s.size + 1)) (some 71) rfl rfl (by kernel_rfl) (by kernel_rfl) (by kernel_rfl) (fun _ _ _ h => h) (by kernel_rfl) (fun _ => ex_move _ _ rfl (by kernel_rfl)) ?_
                        simp only [Act.put, List.setIfInBounds_toArray, List.set_cons_zero, List.set_cons_succ]
                        refine wpAny_at (i := 21) (v := .int .i64 ((m : Int) + 1)) (some 72) rfl rfl (by kernel_rfl) (by kernel_rfl) (by kernel_rfl) (fun _ _ _ h => h) (by kernel_rfl) (fun _ => ex_move _ _ rfl (by kernel_rfl)) ?_
                        simp only [Act.put, List.setIfInBounds_toArray, List.set_cons_zero, List.set_cons_succ]
                        refine wpAny_at (i := 22) (v := .int .i64 m) (some 73) rfl rfl (by kernel_rfl) (by kernel_rfl) (by kernel_rfl) (fun _ _ _ h => h) (by kernel_rfl) (fun _ => ex_binOp .sub 3 _ _ _ (.int .i64 ((m : Int) + 1)) (.int .i64 1) _ rfl (by kernel_rfl) (by kernel_rfl) (HSB.out _)) ?_
                        simp only [Act.put, List.setIfInBounds_toArray, List.set_cons_zero, List.set_cons_succ]
                        refine wpAny_at (i := 23) (v := .pointer (some ⟨N, m, none⟩)) (some 74) rfl rfl (by kernel_rfl) (by kernel_rfl) (by kernel_rfl) (fun _ _ _ h => h) (by kernel_rfl) (fun _ => ex_indexAddr 86 _ _ (.slice (some ⟨N, 0, none⟩) (s.size + 1) (s.size + 1)) (.int .i64 m) _ rfl (by kernel_rfl) (by kernel_rfl) (HIN.out _)) ?_
                        simp only [Act.put, List.setIfInBounds_toArray, List.set_cons_zero, List.set_cons_succ]
                        refine wpAny_val 24 (some 75) (.bool false) (by kernel_rfl) rfl rfl (by kernel_rfl) (ex_load 4 _ (.pointer (some ⟨N, m, none⟩)) _ rfl (by kernel_rfl) (by go_simp)) ?_
                        simp only [Act.put, List.setIfInBounds_toArray, List.set_cons_zero, List.set_cons_succ]
                        refine wpAny_at (i := 25) (v := .bool false) (some 76) rfl rfl (by kernel_rfl) (by kernel_rfl) (by kernel_rfl) (fun _ _ _ h => h) (by kernel_rfl) (fun _ => ex_pick _ _ _ true (.bool false) (.bool false) rfl (by kernel_rfl) (by kernel_rfl) (by kernel_rfl)) ?_
                        simp only [Act.put, List.setIfInBounds_toArray, List.set_cons_zero, List.set_cons_succ]
                        refine wpAny_at (i := 26) (v := .bool false) (some 77) rfl rfl (by kernel_rfl) (by kernel_rfl) (by kernel_rfl) (fun _ _ _ h => h) (by kernel_rfl) (fun _ => ex_pick _ _ _ false (.bool true) (.bool false) rfl (by kernel_rfl) (by kernel_rfl) (by kernel_rfl)) ?_
                        simp only [Act.put, List.setIfInBounds_toArray, List.set_cons_zero, List.set_cons_succ]
                        refine wpAny_at (i := 27) (v := .bool false) (some 78) rfl rfl (by kernel_rfl) (by kernel_rfl) (by kernel_rfl) (fun _ _ _ h => h) (by kernel_rfl) (fun _ => ex_pick _ _ _ true (.bool false) (.bool false) rfl (by kernel_rfl) (by kernel_rfl) (by kernel_rfl)) ?_
                        simp only [Act.put, List.setIfInBounds_toArray, List.set_cons_zero, List.set_cons_succ]
                        refine wpAny_done (by kernel_rfl) ?_ _
                        go_wp2_with fail
                        have HR7 := Lib.hid (HR4.out.of_block (hb7.block _ HR4.out.lt))
                        have HG7 := Lib.hid (HG4.out.of_block (hb7.block _ HG4.out.lt))
                        have HA7 := Lib.hid (HA4.out.keep (hb7.block _ hq4))
                        have HB7 := Lib.hid (HB4.out.trans (hb7.mono HB4.out.size))
                        have HRE : Hid (w7.rowIs N 4 (s.size + 1) (fun j => .bool (if j < m + 1 + 1 then advF x s g j else false))) := HR7.out.congr fun j hj => by
                          by_cases h : j = m + 1
                          · rw [if_pos h, if_pos (by omega), h, HVE.out]
                          · rw [if_neg h]
                            by_cases h2 : j < m + 1
                            · rw [if_pos h2, if_pos (by omega)]
                            · rw [if_neg h2, if_neg (by omega)]
                        go_roundg (s.size + 1 - (m + 1 + 1))
                        case measure => omega
                        case rel => exact ⟨m + 1 + 1, by omega, by go_num, HRE.out, HG7.out, HA7.out, HB7.out, Nat.le_refl _⟩
            · have HBI : Hid ((decide (x.mn < 1) && g i) = false) := by show _ = _; rw [decide_eq_false hm]; rfl
              have HR1 : Hid ((wr.setCell ⟨N, i, none⟩ (.bool false)).rowIs N 4 (s.size + 1) (fun j => .bool (if j = i then false else if j < i then advF x s g j else false))) := (HR.out.set i (.bool false)).congr fun j hj => by
                by_cases h : j = i
                · rw [if_pos h, if_pos h]
                · rw [if_neg h, if_neg h]
              have HG1 := Lib.hid (HG.out.of_block (w' := (wr.setCell ⟨N, i, none⟩ (.bool false))) (Below.heap_setCell _ _ _ _ (show b ≠ N by omega)))
              have HA1 : Hid (AtIn (wr.setCell ⟨N, i, none⟩ (.bool false)) q x) := HA.out.keep (Below.heap_setCell _ _ _ _ (show q ≠ N by omega))
              have HB1 : Hid (Below w.heap.size w (wr.setCell ⟨N, i, none⟩ (.bool false))) := HB.out.setCell (p := ⟨N, i, none⟩) (show w.heap.size ≤ N by omega) _
              have hN4 : N < (wr.setCell ⟨N, i, none⟩ (.bool false)).heap.size := HR1.out.lt
              go_upto_region 15 with fail
              clear HR HG HA HB qm qg r0 rf hgi
              generalize (wr.setCell ⟨N, i, none⟩ (.bool false)) = w4 at HR1 HG1 HA1 HB1 hN4 ⊢
              rcases i with _ | m
              · have HVE : Hid (advF x s g 0 = false) := by show _ = _; rw [adv_zero, HBI.out]
                refine wp_region_at 28 #[false, false, false, false, false, false, false, false, false, false, false, false, false, false, false, false, false, false, false, false, false, false, false, false, false, false, false, false] rfl rfl (by kernel_rfl) ?_
                refine wpAny_at (i := 0) (v := .int .i64 0) (some 51) rfl rfl (by kernel_rfl) (by kernel_rfl) (by kernel_rfl) (fun _ _ _ h => h) (by kernel_rfl) (fun _ => ex_move _ _ rfl (by kernel_rfl)) ?_
                simp only [Act.put, List.setIfInBounds_toArray, List.set_cons_zero, List.set_cons_succ]
                refine wpAny_at (i := 1) (v := .bool false) (some 52) rfl rfl (by kernel_rfl) (by kernel_rfl) (by kernel_rfl) (fun _ _ _ h => h) (by kernel_rfl) (fun _ => ex_binOp .gtr 3 _ _ _ (.int .i64 0) (.int .i64 0) _ rfl (by kernel_rfl) (by kernel_rfl) (by go_simp)) ?_
                simp only [Act.put, List.setIfInBounds_toArray, List.set_cons_zero, List.set_cons_succ]
                refine wpAny_at (i := 2) (v := .bool false) (some 53) rfl rfl (by kernel_rfl) (by kernel_rfl) (by kernel_rfl) (fun _ _ _ h => h) (by kernel_rfl) (fun _ => ex_move _ _ rfl (by kernel_rfl)) ?_
                simp only [Act.put, List.setIfInBounds_toArray, List.set_cons_zero, List.set_cons_succ]
                refine wpAny_skip 3 (some 54) rfl rfl (by kernel_rfl) (by kernel_rfl) (by kernel_rfl) (fun _ _ _ h => h) (by kernel_rfl) ?_
                simp only [Act.put, List.setIfInBounds_toArray, List.set_cons_zero, List.set_cons_succ]
                refine wpAny_skip 4 (some 55) rfl rfl (by kernel_rfl) (by kernel_rfl) (by kernel_rfl) (fun _ _ _ h => h) (by kernel_rfl) ?_
                simp only [Act.put, List.setIfInBounds_toArray, List.set_cons_zero, List.set_cons_succ]
                refine wpAny_skip 5 (some 56) rfl rfl (by kernel_rfl) (by kernel_rfl) (by kernel_rfl) (fun _ _ _ h => h) (by kernel_rfl) ?_
                simp only [Act.put, List.setIfInBounds_toArray, List.set_cons_zero, List.set_cons_succ]
                refine wpAny_skip 6 (some 57) rfl rfl (by kernel_rfl) (by kernel_rfl) (by kernel_rfl) (fun _ _ _ h => h) (by kernel_rfl) ?_
                simp only [Act.put, List.setIfInBounds_toArray, List.set_cons_zero, List.set_cons_succ]
                refine wpAny_skip 7 (some 58) rfl rfl (by kernel_rfl) (by kernel_rfl) (by kernel_rfl) (fun _ _ _ h => h) (by kernel_rfl) ?_
                simp only [Act.put, List.setIfInBounds_toArray, List.set_cons_zero, List.set_cons_succ]
                refine wpAny_skip 8 (some 59) rfl rfl (by kernel_rfl) (by kernel_rfl) (by kernel_rfl) (fun _ _ _ h => h) (by kernel_rfl) ?_
                simp only [Act.put, List.setIfInBounds_toArray, List.set_cons_zero, List.set_cons_succ]
                refine wpAny_at (i := 9) (v := .bool false) (some 60) rfl rfl (by kernel_rfl) (by kernel_rfl) (by kernel_rfl) (fun _ _ _ h => h) (by kernel_rfl) (fun _ => ex_pick _ _ _ false (undef) (.bool false) rfl (by kernel_rfl) (by kernel_rfl) (by kernel_rfl)) ?_
                simp only [Act.put, List.setIfInBounds_toArray, List.set_cons_zero, List.set_cons_succ]
                refine wpAny_at (i := 10) (v := .bool false) (some 61) rfl rfl (by kernel_rfl) (by kernel_rfl) (by kernel_rfl) (fun _ _ _ h => h) (by kernel_rfl) (fun _ => ex_move _ _ rfl (by kernel_rfl)) ?_
                simp only [Act.put, List.setIfInBounds_toArray, List.set_cons_zero, List.set_cons_succ]
                refine wpAny_skip 11 (some 62) rfl rfl (by kernel_rfl) (by kernel_rfl) (by kernel_rfl) (fun _ _ _ h => h) (by kernel_rfl) ?_
                simp only [Act.put, List.setIfInBounds_toArray, List.set_cons_zero, List.set_cons_succ]
                refine wpAny_skip 12 (some 63) rfl rfl (by kernel_rfl) (by kernel_rfl) (by kernel_rfl) (fun _ _ _ h => h) (by kernel_rfl) ?_
                simp only [Act.put, List.setIfInBounds_toArray, List.set_cons_zero, List.set_cons_succ]
                refine wpAny_skip 13 (some 64) rfl rfl (by kernel_rfl) (by kernel_rfl) (by kernel_rfl) (fun _ _ _ h => h) (by kernel_rfl) ?_
                simp only [Act.put, List.setIfInBounds_toArray, List.set_cons_zero, List.set_cons_succ]
                refine wpAny_skip 14 (some 65) rfl rfl (by kernel_rfl) (by kernel_rfl) (by kernel_rfl) (fun _ _ _ h => h) (by kernel_rfl) ?_
                simp only [Act.put, List.setIfInBounds_toArray, List.set_cons_zero, List.set_cons_succ]
                refine wpAny_skip 15 (some 66) rfl rfl (by kernel_rfl) (by kernel_rfl) (by kernel_rfl) (fun _ _ _ h => h) (by kernel_rfl) ?_
                simp only [Act.put, List.setIfInBounds_toArray, List.set_cons_zero, List.set_cons_succ]
                refine wpAny_skip 16 (some 67) rfl rfl (by kernel_rfl) (by kernel_rfl) (by kernel_rfl) (fun _ _ _ h => h) (by kernel_rfl) ?_
                simp only [Act.put, List.setIfInBounds_toArray, List.set_cons_zero, List.set_cons_succ]
                refine wpAny_skip 17 (some 68) rfl rfl (by kernel_rfl) (by kernel_rfl) (by kernel_rfl) (fun _ _ _ h => h) (by kernel_rfl) ?_
                simp only [Act.put, List.setIfInBounds_toArray, List.set_cons_zero, List.set_cons_succ]
                refine wpAny_skip 18 (some 69) rfl rfl (by kernel_rfl) (by kernel_rfl) (by kernel_rfl) (fun _ _ _ h => h) (by kernel_rfl) ?_
                simp only [Act.put, List.setIfInBounds_toArray, List.set_cons_zero, List.set_cons_succ]
                refine wpAny_skip 19 (some 70) rfl rfl (by kernel_rfl) (by kernel_rfl) (by kernel_rfl) (fun _ _ _ h => h) (by kernel_rfl) ?_
                simp only [Act.put, List.setIfInBounds_toArray, List.set_cons_zero, List.set_cons_succ]
                refine wpAny_skip 20 (some 71) rfl rfl (by kernel_rfl) (by kernel_rfl) (by kernel_rfl) (fun _ _ _ h => h) (by kernel_rfl) ?_
                simp only [Act.put, List.setIfInBounds_toArray, List.set_cons_zero, List.set_cons_succ]
                refine wpAny_skip 21 (some 72) rfl rfl (by kernel_rfl) (by kernel_rfl) (by kernel_rfl) (fun _ _ _ h => h) (by kernel_rfl) ?_
                simp only [Act.put, List.setIfInBounds_toArray, List.set_cons_zero, List.set_cons_succ]
                refine wpAny_skip 22 (some 73) rfl rfl (by kernel_rfl) (by kernel_rfl) (by kernel_rfl) (fun _ _ _ h => h) (by kernel_rfl) ?_
                simp only [Act.put, List.setIfInBounds_toArray, List.set_cons_zero, List.set_cons_succ]
                refine wpAny_skip 23 (some 74) rfl rfl (by kernel_rfl) (by kernel_rfl) (by kernel_rfl) (fun _ _ _ h => h) (by kernel_rfl) ?_
                simp only [Act.put, List.setIfInBounds_toArray, List.set_cons_zero, List.set_cons_succ]
                refine wpAny_skip 24 (some 75) rfl rfl (by kernel_rfl) (by kernel_rfl) (by kernel_rfl) (fun _ _ _ h => h) (by kernel_rfl) ?_
                simp only [Act.put, List.setIfInBounds_toArray, List.set_cons_zero, List.set_cons_succ]
                refine wpAny_skip 25 (some 76) rfl rfl (by kernel_rfl) (by kernel_rfl) (by kernel_rfl) (fun _ _ _ h => h) (by kernel_rfl) ?_
                simp only [Act.put, List.setIfInBounds_toArray, List.set_cons_zero, List.set_cons_succ]
                refine wpAny_skip 26 (some 77) rfl rfl (by kernel_rfl) (by kernel_rfl) (by kernel_rfl) (fun _ _ _ h => h) (by kernel_rfl) ?_
                simp only [Act.put, List.setIfInBounds_toArray, List.set_cons_zero, List.set_cons_succ]
                refine wpAny_at (i := 27) (v := .bool false) (some 78) rfl rfl (by kernel_rfl) (by kernel_rfl) (by kernel_rfl) (fun _ _ _ h => h) (by kernel_rfl) (fun _ => ex_pick _ _ _ false (undef) (.bool false) rfl (by kernel_rfl) (by kernel_rfl) (by kernel_rfl)) ?_
                simp only [Act.put, List.setIfInBounds_toArray, List.set_cons_zero, List.set_cons_succ]
                refine wpAny_done (by kernel_rfl) ?_ _
                have HRE : Hid (w4.drew.rowIs N 4 (s.size + 1) (fun j => .bool (if j < 0 + 1 then advF x s g j else false))) := HR1.out.congr fun j hj => by
                  by_cases h : j = 0
                  · rw [if_pos h, if_pos (by omega), h, HVE.out]
                  · rw [if_neg h, if_neg (by omega), if_neg (by omega)]
                go_wp2_with fail
                go_roundg (s.size + 1 - (0 + 1))
                case measure => omega
                case rel => exact ⟨0 + 1, by omega, by go_num, HRE.out, HG1.out.drew, HA1.out, HB1.out.drew, Nat.le_refl _⟩
              · have hms : m < s.size := by omega
                have hmsi : (m : Int) < (s.size : Int) := by omega
                have hm0 : (0 : Int) ≤ (m : Int) := by omega
                have hc1 : ((m + 1 : Nat) : Int) = (m : Int) + 1 := by omega
                rw [hc1]
                have HLD := Lib.hid (run_loadAt_mid (P := Tryd.prog) w4.drew q 0 26 (atC x) _ (at_range HA1.out) hu rfl (by rw [hi, atC_len]))
                have HGT : Hid (∀ w, (do eqGuard .gtr 3 (.tmp 51) (.const (.int .i64 0)) (.int .i64 ((m : Int) + 1)) (.int .i64 0); Go.binOp .gtr 3 (.int .i64 ((m : Int) + 1)) (.int .i64 0) : Sem Value).run Tryd.prog w = .ok (.bool true) w) := by
                  have h1 : (0 : Int) < (m : Int) + 1 := by omega
                  show ∀ w, _ = _
                  intro w
                  go_simp
                have HSB : Hid (∀ {x y : Operand} (w : World), (do eqGuard .sub 3 x y (.int .i64 ((m : Int) + 1)) (.int .i64 1); Go.binOp .sub 3 (.int .i64 ((m : Int) + 1)) (.int .i64 1) : Sem Value).run Tryd.prog w = .ok (.int .i64 m) w) := by
                  show ∀ (x y : Operand) (w : World), _ = _
                  intro x y w
                  go_simp
                  rw [IntKind.wrap_i64]
                  omega
                have HIX : Hid (∀ w, (Instr.index 9 (.string s) (.int .i64 m)).run Tryd.prog w = .ok (.int .u8 (s[m].toNat)) w) := by
                  show ∀ w, _ = _
                  intro w
                  go_simp
                have hmi2 : (m : Int) < (s.size : Int) + 1 := by omega
                have HIB : Hid (∀ w, (Instr.indexAt 86 (.slice (some ⟨b, 0, none⟩) (s.size + 1) (s.size + 1)) (.int .i64 m)).run Tryd.prog w = .ok (.pointer (some ⟨b, m, none⟩)) w) := by
                  show ∀ w, _ = _
                  intro w
                  go_simp
                have HIN : Hid (∀ w, (Instr.indexAt 86 (.slice (some ⟨N, 0, none⟩) (s.size + 1) (s.size + 1)) (.int .i64 m)).run Tryd.prog w = .ok (.pointer (some ⟨N, m, none⟩)) w) := by
                  show ∀ w, _ = _
                  intro w
                  go_simp
                have HV : Hid (advF x s g (m + 1) = (false || (x.p (s[m].toNat) && (g m || (x.many && advF x s g m))))) := by
                  show _ = _
                  rw [adv_own, HBI.out, bt_get s m hms]
                have HC0 := Lib.hid (fun w => contains_any x (s[m].toNat) w (UInt8.toNat_lt _))
                have HR4 : Hid (w4.drew.rowIs N 4 (s.size + 1) (fun j => .bool (if j = m + 1 then false else if j < m + 1 then advF x s g j else false))) := HR1.out
                have HG4 : Hid (w4.drew.rowIs b 4 (s.size + 1) (fun j => .bool (g j))) := HG1.out
                have HA4 : Hid (AtIn w4.drew q x) := HA1.out
                have HB4 : Hid (Below w.heap.size w w4.drew) := HB1.out.drew
                have hq4 : q < w4.drew.heap.size := (Array.getElem?_eq_some_iff.1 HA1.out).1
                have hN5 : N < w4.drew.heap.size := hN4
                clear HR1 HG1 HA1 HB1 hN4
                cases hpx : x.p (s[m].toNat) with
                | false =>
                  rw [hpx] at HV
                  have HC := HC0
                  rw [hpx] at HC
                  have HVE : Hid (advF x s g (m + 1) = false) := by
                    show _ = _
                    rw [HV.out]
                    exact Bool.or_false _
                  refine wp_region_at 28 #[false, false, false, false, false, false, false, false, false, false, false, false, false, false, false, false, false, false, false, false, false, false, false, false, false, false, false, false] rfl rfl (by kernel_rfl) ?_
                  refine wpAny_at (i := 0) (v := .int .i64 ((m : Int) + 1)) (some 51) rfl rfl (by kernel_rfl) (by kernel_rfl) (by kernel_rfl) (fun _ _ _ h => h) (by kernel_rfl) (fun _ => ex_move _ _ rfl (by kernel_rfl)) ?_
                  simp only [Act.put, List.setIfInBounds_toArray, List.set_cons_zero, List.set_cons_succ]
                  refine wpAny_at (i := 1) (v := .bool true) (some 52) rfl rfl (by kernel_rfl) (by kernel_rfl) (by kernel_rfl) (fun _ _ _ h => h) (by kernel_rfl) (fun _ => ex_binOp .gtr 3 _ _ _ (.int .i64 ((m : Int) + 1)) (.int .i64 0) _ rfl (by kernel_rfl) (by kernel_rfl) (HGT.out _)) ?_
                  simp only [Act.put, List.setIfInBounds_toArray, List.set_cons_zero, List.set_cons_succ]
                  refine wpAny_at (i := 2) (v := .bool true) (some 53) rfl rfl (by kernel_rfl) (by kernel_rfl) (by kernel_rfl) (fun _ _ _ h => h) (by kernel_rfl) (fun _ => ex_move _ _ rfl (by kernel_rfl)) ?_
                  simp only [Act.put, List.setIfInBounds_toArray, List.set_cons_zero, List.set_cons_succ]
                  refine wpAny_at (i := 4) (v := .string s) (some 55) rfl rfl (by kernel_rfl) (by kernel_rfl) (by kernel_rfl) (fun _ _ _ h => h) (by kernel_rfl) (fun _ => ex_move _ _ rfl (by kernel_rfl)) ?_
                  simp only [Act.put, List.setIfInBounds_toArray, List.set_cons_zero, List.set_cons_succ]
                  refine wpAny_at (i := 5) (v := .int .i64 ((m : Int) + 1)) (some 56) rfl rfl (by kernel_rfl) (by kernel_rfl) (by kernel_rfl) (fun _ _ _ h => h) (by kernel_rfl) (fun _ => ex_move _ _ rfl (by kernel_rfl)) ?_
                  simp only [Act.put, List.setIfInBounds_toArray, List.set_cons_zero, List.set_cons_succ]
                  refine wpAny_at (i := 6) (v := .int .i64 m) (some 57) rfl rfl (by kernel_rfl) (by kernel_rfl) (by kernel_rfl) (fun _ _ _ h => h) (by kernel_rfl) (fun _ => ex_binOp .sub 3 _ _ _ (.int .i64 ((m : Int) + 1)) (.int .i64 1) _ rfl (by kernel_rfl) (by kernel_rfl) (HSB.out _)) ?_
                  simp only [Act.put, List.setIfInBounds_toArray, List.set_cons_zero, List.set_cons_succ]
                  refine wpAny_at (i := 7) (v := .int .u8 (s[m].toNat)) (some 58) rfl rfl (by kernel_rfl) (by kernel_rfl) (by kernel_rfl) (fun _ _ _ h => h) (by kernel_rfl) (fun _ => ex_index 9 _ _ (.string s) (.int .i64 m) _ rfl (by kernel_rfl) (by kernel_rfl) (HIX.out _)) ?_
                  simp only [Act.put, List.setIfInBounds_toArray, List.set_cons_zero, List.set_cons_succ]
                  refine wpAny_val 3 (some 54) (.agg (atC x).toArray) (by kernel_rfl) rfl rfl (by kernel_rfl) (ex_load 26 _ (.pointer (some ⟨q, 0, none⟩)) _ rfl (by kernel_rfl) (HLD.out)) ?_
                  simp only [Act.put, List.setIfInBounds_toArray, List.set_cons_zero, List.set_cons_succ]
                  refine wpAny_call 8 (some 59) (by kernel_rfl) rfl rfl (by kernel_rfl) 82 (#[.agg (atC x).toArray, .int .u8 (s[m].toNat)]) (by go_simp) (HC.out _) ?_
                  rintro e w7 ⟨rfl, hb7⟩
                  refine ⟨_, rfl, ?_⟩
                  have qa := (HG4.out.of_block (hb7.block _ HG4.out.lt)).cell (i := m) (by omega)
                  have qn := (HR4.out.of_block (hb7.block _ HR4.out.lt)).cell (i := m) (by omega)
                  have qy := (HA4.out.keep (hb7.block _ hq4)).many
                  rw [if_neg (by omega), if_pos (by omega)] at qn
                  have rf7 := (HR4.out.of_block (hb7.block _ HR4.out.lt)).frozen (m + 1)
                  have r7 := (HR4.out.of_block (hb7.block _ HR4.out.lt)).cell (i := m + 1) hil
                  rw [if_pos rfl] at r7
                  change wpAny _ _ _ _ _ _ (Act.put _ (some 59) _) _
                  simp only [Act.put, List.setIfInBounds_toArray, List.set_cons_zero, List.set_cons_succ]
                  refine wpAny_at (i := 9) (v := .bool false) (some 60) rfl rfl (by kernel_rfl) (by kernel_rfl) (by kernel_rfl) (fun _ _ _ h => h) (by kernel_rfl) (fun _ => ex_pick _ _ _ true (.bool false) (.bool false) rfl (by kernel_rfl) (by kernel_rfl) (by kernel_rfl)) ?_
                  simp only [Act.put, List.setIfInBounds_toArray, List.set_cons_zero, List.set_cons_succ]
                  refine wpAny_at (i := 10) (v := .bool false) (some 61) rfl rfl (by kernel_rfl) (by kernel_rfl) (by kernel_rfl) (fun _ _ _ h => h) (by kernel_rfl) (fun _ => ex_move _ _ rfl (by kernel_rfl)) ?_
                  simp only [Act.put, List.setIfInBounds_toArray, List.set_cons_zero, List.set_cons_succ]
                  refine wpAny_skip 11 (some 62) rfl rfl (by kernel_rfl) (by kernel_rfl) (by kernel_rfl) (fun _ _ _ h => h) (by kernel_rfl) ?_
                  simp only [Act.put, List.setIfInBounds_toArray, List.set_cons_zero, List.set_cons_succ]
                  refine wpAny_skip 12 (some 63) rfl rfl (by kernel_rfl) (by kernel_rfl) (by kernel_rfl) (fun _ _ _ h => h) (by kernel_rfl) ?_
                  simp only [Act.put, List.setIfInBounds_toArray, List.set_cons_zero, List.set_cons_succ]
                  refine wpAny_skip 13 (some 64) rfl rfl (by kernel_rfl) (by kernel_rfl) (by kernel_rfl) (fun _ _ _ h => h) (by kernel_rfl) ?_
                  simp only [Act.put, List.setIfInBounds_toArray, List.set_cons_zero, List.set_cons_succ]
                  refine wpAny_skip 14 (some 65) rfl rfl (by kernel_rfl) (by kernel_rfl) (by kernel_rfl) (fun _ _ _ h => h) (by kernel_rfl) ?_
                  simp only [Act.put, List.setIfInBounds_toArray, List.set_cons_zero, List.set_cons_succ]
                  refine wpAny_skip 15 (some 66) rfl rfl (by kernel_rfl) (by kernel_rfl) (by kernel_rfl) (fun _ _ _ h => h) (by kernel_rfl) ?_
                  simp only [Act.put, List.setIfInBounds_toArray, List.set_cons_zero, List.set_cons_succ]
                  refine wpAny_skip 16 (some 67) rfl rfl (by kernel_rfl) (by kernel_rfl) (by kernel_rfl) (fun _ _ _ h => h) (by kernel_rfl) ?_
                  simp only [Act.put, List.setIfInBounds_toArray, List.set_cons_zero, List.set_cons_succ]
                  refine wpAny_skip 17 (some 68) rfl rfl (by kernel_rfl) (by kernel_rfl) (by kernel_rfl) (fun _ _ _ h => h) (by kernel_rfl) ?_
                  simp only [Act.put, List.setIfInBounds_toArray, List.set_cons_zero, List.set_cons_succ]
                  refine wpAny_skip 18 (some 69) rfl rfl (by kernel_rfl) (by kernel_rfl) (by kernel_rfl) (fun _ _ _ h => h) (by kernel_rfl) ?_
                  simp only [Act.put, List.setIfInBounds_toArray, List.set_cons_zero, List.set_cons_succ]
                  refine wpAny_skip 19 (some 70) rfl rfl (by kernel_rfl) (by kernel_rfl) (by kernel_rfl) (fun _ _ _ h => h) (by kernel_rfl) ?_
                  simp only [Act.put, List.setIfInBounds_toArray, List.set_cons_zero, List.set_cons_succ]
                  refine wpAny_skip 20 (some 71) rfl rfl (by kernel_rfl) (by kernel_rfl) (by kernel_rfl) (fun _ _ _ h => h) (by kernel_rfl) ?_
                  simp only [Act.put, List.setIfInBounds_toArray, List.set_cons_zero, List.set_cons_succ]
                  refine wpAny_skip 21 (some 72) rfl rfl (by kernel_rfl) (by kernel_rfl) (by kernel_rfl) (fun _ _ _ h => h) (by kernel_rfl) ?_
                  simp only [Act.put, List.setIfInBounds_toArray, List.set_cons_zero, List.set_cons_succ]
                  refine wpAny_skip 22 (some 73) rfl rfl (by kernel_rfl) (by kernel_rfl) (by kernel_rfl) (fun _ _ _ h => h) (by kernel_rfl) ?_
                  simp only [Act.put, List.setIfInBounds_toArray, List.set_cons_zero, List.set_cons_succ]
                  refine wpAny_skip 23 (some 74) rfl rfl (by kernel_rfl) (by kernel_rfl) (by kernel_rfl) (fun _ _ _ h => h) (by kernel_rfl) ?_
                  simp only [Act.put, List.setIfInBounds_toArray, List.set_cons_zero, List.set_cons_succ]
                  refine wpAny_skip 24 (some 75) rfl rfl (by kernel_rfl) (by kernel_rfl) (by kernel_rfl) (fun _ _ _ h => h) (by kernel_rfl) ?_
                  simp only [Act.put, List.setIfInBounds_toArray, List.set_cons_zero, List.set_cons_succ]
                  refine wpAny_skip 25 (some 76) rfl rfl (by kernel_rfl) (by kernel_rfl) (by kernel_rfl) (fun _ _ _ h => h) (by kernel_rfl) ?_
                  simp only [Act.put, List.setIfInBounds_toArray, List.set_cons_zero, List.set_cons_succ]
                  refine wpAny_skip 26 (some 77) rfl rfl (by kernel_rfl) (by kernel_rfl) (by kernel_rfl) (fun _ _ _ h => h) (by kernel_rfl) ?_
                  simp only [Act.put, List.setIfInBounds_toArray, List.set_cons_zero, List.set_cons_succ]
                  refine wpAny_at (i := 27) (v := .bool false) (some 78) rfl rfl (by kernel_rfl) (by kernel_rfl) (by kernel_rfl) (fun _ _ _ h => h) (by kernel_rfl) (fun _ => ex_pick _ _ _ false (undef) (.bool false) rfl (by kernel_rfl) (by kernel_rfl) (by kernel_rfl)) ?_
                  simp only [Act.put, List.setIfInBounds_toArray, List.set_cons_zero, List.set_cons_succ]
                  refine wpAny_done (by kernel_rfl) ?_ _
                  go_wp2_with fail
                  have HR7 := Lib.hid (HR4.out.of_block (hb7.block _ HR4.out.lt))
                  have HG7 := Lib.hid (HG4.out.of_block (hb7.block _ HG4.out.lt))
                  have HA7 := Lib.hid (HA4.out.keep (hb7.block _ hq4))
                  have HB7 := Lib.hid (HB4.out.trans (hb7.mono HB4.out.size))
                  have HRE : Hid (w7.rowIs N 4 (s.size + 1) (fun j => .bool (if j < m + 1 + 1 then advF x s g j else false))) := HR7.out.congr fun j hj => by
                    by_cases h : j = m + 1
                    · rw [if_pos h, if_pos (by omega), h, HVE.out]
                    · rw [if_neg h]
                      by_cases h2 : j < m + 1
                      · rw [if_pos h2, if_pos (by omega)]
                      · rw [if_neg h2, if_neg (by omega)]
                  go_roundg (s.size + 1 - (m + 1 + 1))
                  case measure => omega
                  case rel => exact ⟨m + 1 + 1, by omega, by go_num, HRE.out, HG7.out, HA7.out, HB7.out, Nat.le_refl _⟩
                | true =>
                  rw [hpx] at HV
                  have HC := HC0
                  rw [hpx] at HC
                  cases hfi : g m with
                  | true =>
                    rw [hfi] at HV
                    have HVE : Hid (advF x s g (m + 1) = true) := by
                      show _ = _
                      rw [HV.out]
                      exact Bool.or_true _
                    refine wp_region_at 28 #[false, false, false, false, false, false, false, false, false, false, false, false, false, false, false, false, false, false, false, false, false, false, false, false, false, false, false, false] rfl rfl (by kernel_rfl) ?_
                    refine wpAny_at (i := 0) (v := .int .i64 ((m : Int) + 1)) (some 51) rfl rfl (by kernel_rfl) (by kernel_rfl) (by kernel_rfl) (fun _ _ _ h => h) (by kernel_rfl) (fun _ => ex_move _ _ rfl (by kernel_rfl)) ?_
                    simp only [Act.put, List.setIfInBounds_toArray, List.set_cons_zero, List.set_cons_succ]
                    refine wpAny_at (i := 1) (v := .bool true) (some 52) rfl rfl (by kernel_rfl) (by kernel_rfl) (by kernel_rfl) (fun _ _ _ h => h) (by kernel_rfl) (fun _ => ex_binOp .gtr 3 _ _ _ (.int .i64 ((m : Int) + 1)) (.int .i64 0) _ rfl (by kernel_rfl) (by kernel_rfl) (HGT.out _)) ?_
                    simp only [Act.put, List.setIfInBounds_toArray, List.set_cons_zero, List.set_cons_succ]
                    refine wpAny_at (i := 2) (v := .bool true) (some 53) rfl rfl (by kernel_rfl) (by kernel_rfl) (by kernel_rfl) (fun _ _ _ h => h) (by kernel_rfl) (fun _ => ex_move _ _ rfl (by kernel_rfl)) ?_
                    simp only [Act.put, List.setIfInBounds_toArray, List.set_cons_zero, List.set_cons_succ]
                    refine wpAny_at (i := 4) (v := .string s) (some 55) rfl rfl (by kernel_rfl) (by kernel_rfl) (by kernel_rfl) (fun _ _ _ h => h) (by kernel_rfl) (fun _ => ex_move _ _ rfl (by kernel_rfl)) ?_
                    simp only [Act.put, List.setIfInBounds_toArray, List.set_cons_zero, List.set_cons_succ]
                    refine wpAny_at (i := 5) (v := .int .i64 ((m : Int) + 1)) (some 56) rfl rfl (by kernel_rfl) (by kernel_rfl) (by kernel_rfl) (fun _ _ _ h => h) (by kernel_rfl) (fun _ => ex_move _ _ rfl (by kernel_rfl)) ?_
                    simp only [Act.put, List.setIfInBounds_toArray, List.set_cons_zero, List.set_cons_succ]
                    refine wpAny_at (i := 6) (v := .int .i64 m) (some 57) rfl rfl (by kernel_rfl) (by kernel_rfl) (by kernel_rfl) (fun _ _ _ h => h) (by kernel_rfl) (fun _ => ex_binOp .sub 3 _ _ _ (.int .i64 ((m : Int) + 1)) (.int .i64 1) _ rfl (by kernel_rfl) (by kernel_rfl) (HSB.out _)) ?_
                    simp only [Act.put, List.setIfInBounds_toArray, List.set_cons_zero, List.set_cons_succ]
                    refine wpAny_at (i := 7) (v := .int .u8 (s[m].toNat)) (some 58) rfl rfl (by kernel_rfl) (by kernel_rfl) (by kernel_rfl) (fun _ _ _ h => h) (by kernel_rfl) (fun _ => ex_index 9 _ _ (.string s) (.int .i64 m) _ rfl (by kernel_rfl) (by kernel_rfl) (HIX.out _)) ?_
                    simp only [Act.put, List.setIfInBounds_toArray, List.set_cons_zero, List.set_cons_succ]
                    refine wpAny_val 3 (some 54) (.agg (atC x).toArray) (by kernel_rfl) rfl rfl (by kernel_rfl) (ex_load 26 _ (.pointer (some ⟨q, 0, none⟩)) _ rfl (by kernel_rfl) (HLD.out)) ?_
                    simp only [Act.put, List.setIfInBounds_toArray, List.set_cons_zero, List.set_cons_succ]
                    refine wpAny_call 8 (some 59) (by kernel_rfl) rfl rfl (by kernel_rfl) 82 (#[.agg (atC x).toArray, .int .u8 (s[m].toNat)]) (by go_simp) (HC.out _) ?_
                    rintro e w7 ⟨rfl, hb7⟩
                    refine ⟨_, rfl, ?_⟩
                    have qa := (HG4.out.of_block (hb7.block _ HG4.out.lt)).cell (i := m) (by omega)
                    have qn := (HR4.out.of_block (hb7.block _ HR4.out.lt)).cell (i := m) (by omega)
                    have qy := (HA4.out.keep (hb7.block _ hq4)).many
                    rw [if_neg (by omega), if_pos (by omega)] at qn
                    rw [hfi] at qa
                    have rf7 := (HR4.out.of_block (hb7.block _ HR4.out.lt)).frozen (m + 1)
                    have r7 := (HR4.out.of_block (hb7.block _ HR4.out.lt)).cell (i := m + 1) hil
                    rw [if_pos rfl] at r7
                    change wpAny _ _ _ _ _ _ (Act.put _ (some 59) _) _
                    simp only [Act.put, List.setIfInBounds_toArray, List.set_cons_zero, List.set_cons_succ]
                    refine wpAny_at (i := 9) (v := .bool true) (some 60) rfl rfl (by kernel_rfl) (by kernel_rfl) (by kernel_rfl) (fun _ _ _ h => h) (by kernel_rfl) (fun _ => ex_pick _ _ _ true (.bool true) (.bool false) rfl (by kernel_rfl) (by kernel_rfl) (by kernel_rfl)) ?_
                    simp only [Act.put, List.setIfInBounds_toArray, List.set_cons_zero, List.set_cons_succ]
                    refine wpAny_at (i := 10) (v := .bool true) (some 61) rfl rfl (by kernel_rfl) (by kernel_rfl) (by kernel_rfl) (fun _ _ _ h => h) (by kernel_rfl) (fun _ => ex_move _ _ rfl (by kernel_rfl)) ?_
                    simp only [Act.put, List.setIfInBounds_toArray, List.set_cons_zero, List.set_cons_succ]
                    refine wpAny_at (i := 11) (v := .slice (some ⟨b, 0, none⟩) (s.size + 1) (s.size + 1)) (some 62) rfl rfl (by kernel_rfl) (by kernel_rfl) (by kernel_rfl) (fun _ _ _ h => h) (by kernel_rfl) (fun _ => ex_move _ _ rfl (by kernel_rfl)) ?_
                    simp only [Act.put, List.setIfInBounds_toArray, List.set_cons_zero, List.set_cons_succ]
                    refine wpAny_at (i := 12) (v := .int .i64 ((m : Int) + 1)) (some 63) rfl rfl (by kernel_rfl) (by kernel_rfl) (by kernel_rfl) (fun _ _ _ h => h) (by kernel_rfl) (fun _ => ex_move _ _ rfl (by kernel_rfl)) ?_
                    simp only [Act.put, List.setIfInBounds_toArray, List.set_cons_zero, List.set_cons_succ]
                    refine wpAny_at (i := 13) (v := .int .i64 m) (some 64) rfl rfl (by kernel_rfl) (by kernel_rfl) (by kernel_rfl) (fun _ _ _ h => h) (by kernel_rfl) (fun _ => ex_binOp .sub 3 _ _ _ (.int .i64 ((m : Int) + 1)) (.int .i64 1) _ rfl (by kernel_rfl) (by kernel_rfl) (HSB.out _)) ?_
                    simp only [Act.put, List.setIfInBounds_toArray, List.set_cons_zero, List.set_cons_succ]
                    refine wpAny_at (i := 14) (v := .pointer (some ⟨b, m, none⟩)) (some 65) rfl rfl (by kernel_rfl) (by kernel_rfl) (by kernel_rfl) (fun _ _ _ h => h) (by kernel_rfl) (fun _ => ex_indexAddr 86 _ _ (.slice (some ⟨b, 0, none⟩) (s.size + 1) (s.size + 1)) (.int .i64 m) _ rfl (by kernel_rfl) (by kernel_rfl) (HIB.out _)) ?_
                    simp only [Act.put, List.setIfInBounds_toArray, List.set_cons_zero, List.set_cons_succ]
                    refine wpAny_val 15 (some 66) (.bool true) (by kernel_rfl) rfl rfl (by kernel_rfl) (ex_load 4 _ (.pointer (some ⟨b, m, none⟩)) _ rfl (by kernel_rfl) (by go_simp)) ?_
                    simp only [Act.put, List.setIfInBounds_toArray, List.set_cons_zero, List.set_cons_succ]
                    refine wpAny_at (i := 16) (v := .bool true) (some 67) rfl rfl (by kernel_rfl) (by kernel_rfl) (by kernel_rfl) (fun _ _ _ h => h) (by kernel_rfl) (fun _ => ex_move _ _ rfl (by kernel_rfl)) ?_
                    simp only [Act.put, List.setIfInBounds_toArray, List.set_cons_zero, List.set_cons_succ]
                    refine wpAny_skip 17 (some 68) rfl rfl (by kernel_rfl) (by kernel_rfl) (by kernel_rfl) (fun _ _ _ h => h) (by kernel_rfl) ?_
                    simp only [Act.put, List.setIfInBounds_toArray, List.set_cons_zero, List.set_cons_succ]
                    refine wpAny_skip 18 (some 69) rfl rfl (by kernel_rfl) (by kernel_rfl) (by kernel_rfl) (fun _ _ _ h => h) (by kernel_rfl) ?_
                    simp only [Act.put, List.setIfInBounds_toArray, List.set_cons_zero, List.set_cons_succ]
                    refine wpAny_skip 19 (some 70) rfl rfl (by kernel_rfl) (by kernel_rfl) (by kernel_rfl) (fun _ _ _ h => h) (by kernel_rfl) ?_
                    simp only [Act.put, List.setIfInBounds_toArray, List.set_cons_zero, List.set_cons_succ]
                    refine wpAny_skip 20 (some 71) rfl rfl (by kernel_rfl) (by kernel_rfl) (by kernel_rfl) (fun _ _ _ h => h) (by kernel_rfl) ?_
                    simp only [Act.put, List.setIfInBounds_toArray, List.set_cons_zero, List.set_cons_succ]
                    refine wpAny_skip 21 (some 72) rfl rfl (by kernel_rfl) (by kernel_rfl) (by kernel_rfl) (fun _ _ _ h => h) (by kernel_rfl) ?_
                    simp only [Act.put, List.setIfInBounds_toArray, List.set_cons_zero, List.set_cons_succ]
                    refine wpAny_skip 22 (some 73) rfl rfl (by kernel_rfl) (by kernel_rfl) (by kernel_rfl) (fun _ _ _ h => h) (by kernel_rfl) ?_
                    simp only [Act.put, List.setIfInBounds_toArray, List.set_cons_zero, List.set_cons_succ]
                    refine wpAny_skip 23 (some 74) rfl rfl (by kernel_rfl) (by kernel_rfl) (by kernel_rfl) (fun _ _ _ h => h) (by kernel_rfl) ?_
                    simp only [Act.put, List.setIfInBounds_toArray, List.set_cons_zero, List.set_cons_succ]
                    refine wpAny_skip 24 (some 75) rfl rfl (by kernel_rfl) (by kernel_rfl) (by kernel_rfl) (fun _ _ _ h => h) (by kernel_rfl) ?_
                    simp only [Act.put, List.setIfInBounds_toArray, List.set_cons_zero, List.set_cons_succ]
                    refine wpAny_skip 25 (some 76) rfl rfl (by kernel_rfl) (by kernel_rfl) (by kernel_rfl) (fun _ _ _ h => h) (by kernel_rfl) ?_
                    simp only [Act.put, List.setIfInBounds_toArray, List.set_cons_zero, List.set_cons_succ]
                    refine wpAny_at (i := 26) (v := .bool true) (some 77) rfl rfl (by kernel_rfl) (by kernel_rfl) (by kernel_rfl) (fun _ _ _ h => h) (by kernel_rfl) (fun _ => ex_pick _ _ _ true (.bool true) (undef) rfl (by kernel_rfl) (by kernel_rfl) (by kernel_rfl)) ?_
                    simp only [Act.put, List.setIfInBounds_toArray, List.set_cons_zero, List.set_cons_succ]
                    refine wpAny_at (i := 27) (v := .bool true) (some 78) rfl rfl (by kernel_rfl) (by kernel_rfl) (by kernel_rfl) (fun _ _ _ h => h) (by kernel_rfl) (fun _ => ex_pick _ _ _ true (.bool true) (.bool false) rfl (by kernel_rfl) (by kernel_rfl) (by kernel_rfl)) ?_
                    simp only [Act.put, List.setIfInBounds_toArray, List.set_cons_zero, List.set_cons_succ]
                    refine wpAny_done (by kernel_rfl) ?_ _
                    go_wp2_with fail
                    have HR7 := Lib.hid (HR4.out.of_block (hb7.block _ HR4.out.lt))
                    have HG7 := Lib.hid (HG4.out.of_block (hb7.block _ HG4.out.lt))
                    have HA7 := Lib.hid (HA4.out.keep (hb7.block _ hq4))
                    have HB7 := Lib.hid (HB4.out.trans (hb7.mono HB4.out.size))
                    have HRE : Hid ((w7.setCell ⟨N, m + 1, none⟩ (.bool true)).rowIs N 4 (s.size + 1) (fun j => .bool (if j < m + 1 + 1 then advF x s g j else false))) := (HR7.out.set (m + 1) (.bool true)).congr fun j hj => by
                      by_cases h : j = m + 1
                      · rw [if_pos h, if_pos (by omega), h, HVE.out]
                      · rw [if_neg h, if_neg h]
                        by_cases h2 : j < m + 1
                        · rw [if_pos h2, if_pos (by omega)]
                        · rw [if_neg h2, if_neg (by omega)]
                    go_roundg (s.size + 1 - (m + 1 + 1))
                    case measure => omega
                    case rel => exact ⟨m + 1 + 1, by omega, by go_num, HRE.out, HG7.out.of_block (Below.heap_setCell _ _ _ _ (show b ≠ N by omega)), HA7.out.keep (Below.heap_setCell _ _ _ _ (show q ≠ N by omega)), HB7.out.setCell (p := ⟨N, m + 1, none⟩) (show w.heap.size ≤ N by omega) _, Nat.le_refl _⟩
                  | false =>
                    rw [hfi] at HV
                    cases hmm : x.many with
                    | false =>
                      rw [hmm] at HV
                      have HVE : Hid (advF x s g (m + 1) = false) := by
                        show _ = _
                        rw [HV.out]
                        exact Bool.or_false _
                      refine wp_region_at 28 #[false, false, false, false, false, false, false, false, false, false, false, false, false, false, false, false, false, false, false, false, false, false, false, false, false, false, false, false] rfl rfl (by kernel_rfl) ?_
                      refine wpAny_at (i := 0) (v := .int .i64 ((m : Int) + 1)) (some 51) rfl rfl (by kernel_rfl) (by kernel_rfl) (by kernel_rfl) (fun _ _ _ h => h) (by kernel_rfl) (fun _ => ex_move _ _ rfl (by kernel_rfl)) ?_
                      simp only [Act.put, List.setIfInBounds_toArray, List.set_cons_zero, List.set_cons_succ]
                      refine wpAny_at (i := 1) (v := .bool true) (some 52) rfl rfl (by kernel_rfl) (by kernel_rfl) (by kernel_rfl) (fun _ _ _ h => h) (by kernel_rfl) (fun _ => ex_binOp .gtr 3 _ _ _ (.int .i64 ((m : Int) + 1)) (.int .i64 0) _ rfl (by kernel_rfl) (by kernel_rfl) (HGT.out _)) ?_
                      simp only [Act.put, List.setIfInBounds_toArray, List.set_cons_zero, List.set_cons_succ]
                      refine wpAny_at (i := 2) (v := .bool true) (some 53) rfl rfl (by kernel_rfl) (by kernel_rfl) (by kernel_rfl) (fun _ _ _ h => h) (by kernel_rfl) (fun _ => ex_move _ _ rfl (by kernel_rfl)) ?_
                      simp only [Act.put, List.setIfInBounds_toArray, List.set_cons_zero, List.set_cons_succ]
                      refine wpAny_at (i := 4) (v := .string s) (some 55) rfl rfl (by kernel_rfl) (by kernel_rfl) (by kernel_rfl) (fun _ _ _ h => h) (by kernel_rfl) (fun _ => ex_move _ _ rfl (by kernel_rfl)) ?_
                      simp only [Act.put, List.setIfInBounds_toArray, List.set_cons_zero, List.set_cons_succ]
                      refine wpAny_at (i := 5) (v := .int .i64 ((m : Int) + 1)) (some 56) rfl rfl (by kernel_rfl) (by kernel_rfl) (by kernel_rfl) (fun _ _ _ h => h) (by kernel_rfl) (fun _ => ex_move _ _ rfl (by kernel_rfl)) ?_
                      simp only [Act.put, List.setIfInBounds_toArray, List.set_cons_zero, List.set_cons_succ]
                      refine wpAny_at (i := 6) (v := .int .i64 m) (some 57) rfl rfl (by kernel_rfl) (by kernel_rfl) (by kernel_rfl) (fun _ _ _ h => h) (by kernel_rfl) (fun _ => ex_binOp .sub 3 _ _ _ (.int .i64 ((m : Int) + 1)) (.int .i64 1) _ rfl (by kernel_rfl) (by kernel_rfl) (HSB.out _)) ?_
                      simp only [Act.put, List.setIfInBounds_toArray, List.set_cons_zero, List.set_cons_succ]
                      refine wpAny_at (i := 7) (v := .int .u8 (s[m].toNat)) (some 58) rfl rfl (by kernel_rfl) (by kernel_rfl) (by kernel_rfl) (fun _ _ _ h => h) (by kernel_rfl) (fun _ => ex_index 9 _ _ (.string s) (.int .i64 m) _ rfl (by kernel_rfl) (by kernel_rfl) (HIX.out _)) ?_
                      simp only [Act.put, List.setIfInBounds_toArray, List.set_cons_zero, List.set_cons_succ]
                      refine wpAny_val 3 (some 54) (.agg (atC x).toArray) (by kernel_rfl) rfl rfl (by kernel_rfl) (ex_load 26 _ (.pointer (some ⟨q, 0, none⟩)) _ rfl (by kernel_rfl) (HLD.out)) ?_
                      simp only [Act.put, List.setIfInBounds_toArray, List.set_cons_zero, List.set_cons_succ]
                      refine wpAny_call 8 (some 59) (by kernel_rfl) rfl rfl (by kernel_rfl) 82 (#[.agg (atC x).toArray, .int .u8 (s[m].toNat)]) (by go_simp) (HC.out _) ?_
                      rintro e w7 ⟨rfl, hb7⟩
                      refine ⟨_, rfl, ?_⟩
                      have qa := (HG4.out.of_block (hb7.block _ HG4.out.lt)).cell (i := m) (by omega)
                      have qn := (HR4.out.of_block (hb7.block _ HR4.out.lt)).cell (i := m) (by omega)
                      have qy := (HA4.out.keep (hb7.block _ hq4)).many
                      rw [if_neg (by omega), if_pos (by omega)] at qn
                      rw [hfi] at qa
                      rw [hmm] at qy
                      have rf7 := (HR4.out.of_block (hb7.block _ HR4.out.lt)).frozen (m + 1)
                      have r7 := (HR4.out.of_block (hb7.block _ HR4.out.lt)).cell (i := m + 1) hil
                      rw [if_pos rfl] at r7
                      change wpAny _ _ _ _ _ _ (Act.put _ (some 59) _) _
                      simp only [Act.put, List.setIfInBounds_toArray, List.set_cons_zero, List.set_cons_succ]
                      refine wpAny_at (i := 9) (v := .bool true) (some 60) rfl rfl (by kernel_rfl) (by kernel_rfl) (by kernel_rfl) (fun _ _ _ h => h) (by kernel_rfl) (fun _ => ex_pick _ _ _ true (.bool true) (.bool false) rfl (by kernel_rfl) (by kernel_rfl) (by kernel_rfl)) ?_
                      simp only [Act.put, List.setIfInBounds_toArray, List.set_cons_zero, List.set_cons_succ]
                      refine wpAny_at (i := 10) (v := .bool true) (some 61) rfl rfl (by kernel_rfl) (by kernel_rfl) (by kernel_rfl) (fun _ _ _ h => h) (by kernel_rfl) (fun _ => ex_move _ _ rfl (by kernel_rfl)) ?_
                      simp only [Act.put, List.setIfInBounds_toArray, List.set_cons_zero, List.set_cons_succ]
                      refine wpAny_at (i := 11) (v := .slice (some ⟨b, 0, none⟩) (s.size + 1) (s.size + 1)) (some 62) rfl rfl (by kernel_rfl) (by kernel_rfl) (by kernel_rfl) (fun _ _ _ h => h) (by kernel_rfl) (fun _ => ex_move _ _ rfl (by kernel_rfl)) ?_
                      simp only [Act.put, List.setIfInBounds_toArray, List.set_cons_zero, List.set_cons_succ]
                      refine wpAny_at (i := 12) (v := .int .i64 ((m : Int) + 1)) (some 63) rfl rfl (by kernel_rfl) (by kernel_rfl) (by kernel_rfl) (fun _ _ _ h => h) (by kernel_rfl) (fun _ => ex_move _ _ rfl (by kernel_rfl)) ?_
                      simp only [Act.put, List.setIfInBounds_toArray, List.set_cons_zero, List.set_cons_succ]
                      refine wpAny_at (i := 13) (v := .int .i64 m) (some 64) rfl rfl (by kernel_rfl) (by kernel_rfl) (by kernel_rfl) (fun _ _ _ h => h) (by kernel_rfl) (fun _ => ex_binOp .sub 3 _ _ _ (.int .i64 ((m : Int) + 1)) (.int .i64 1) _ rfl (by kernel_rfl) (by kernel_rfl) (HSB.out _)) ?_
                      simp only [Act.put, List.setIfInBounds_toArray, List.set_cons_zero, List.set_cons_succ]
                      refine wpAny_at (i := 14) (v := .pointer (some ⟨b, m, none⟩)) (some 65) rfl rfl (by kernel_rfl) (by kernel_rfl) (by kernel_rfl) (fun _ _ _ h => h) (by kernel_rfl) (fun _ => ex_indexAddr 86 _ _ (.slice (some ⟨b, 0, none⟩) (s.size + 1) (s.size + 1)) (.int .i64 m) _ rfl (by kernel_rfl) (by kernel_rfl) (HIB.out _)) ?_
                      simp only [Act.put, List.setIfInBounds_toArray, List.set_cons_zero, List.set_cons_succ]
                      refine wpAny_val 15 (some 66) (.bool false) (by kernel_rfl) rfl rfl (by kernel_rfl) (ex_load 4 _ (.pointer (some ⟨b, m, none⟩)) _ rfl (by kernel_rfl) (by go_simp)) ?_
                      simp only [Act.put, List.setIfInBounds_toArray, List.set_cons_zero, List.set_cons_succ]
                      refine wpAny_at (i := 16) (v := .bool false) (some 67) rfl rfl (by kernel_rfl) (by kernel_rfl) (by kernel_rfl) (fun _ _ _ h => h) (by kernel_rfl) (fun _ => ex_move _ _ rfl (by kernel_rfl)) ?_
                      simp only [Act.put, List.setIfInBounds_toArray, List.set_cons_zero, List.set_cons_succ]
                      refine wpAny_at (i := 17) (v := .pointer (some ⟨q, 33, none⟩)) (some 68) rfl rfl (by kernel_rfl) (by kernel_rfl) (by kernel_rfl) (fun _ _ _ h => h) (by kernel_rfl) (fun _ => ex_fieldAddr 26 _ 2 (.pointer (some ⟨q, 0, none⟩)) _ rfl (by kernel_rfl) (by go_simp)) ?_
                      simp only [Act.put, List.setIfInBounds_toArray, List.set_cons_zero, List.set_cons_succ]
                      refine wpAny_val 18 (some 69) (.bool false) (by kernel_rfl) rfl rfl (by kernel_rfl) (ex_load 4 _ (.pointer (some ⟨q, 33, none⟩)) _ rfl (by kernel_rfl) (by go_simp)) ?_
                      simp only [Act.put, List.setIfInBounds_toArray, List.set_cons_zero, List.set_cons_succ]
                      refine wpAny_at (i := 19) (v := .bool false) (some 70) rfl rfl (by kernel_rfl) (by kernel_rfl) (by kernel_rfl) (fun _ _ _ h => h) (by kernel_rfl) (fun _ => ex_move _ _ rfl (by kernel_rfl)) ?_
                      simp only [Act.put, List.setIfInBounds_toArray, List.set_cons_zero, List.set_cons_succ]
                      refine wpAny_skip 20 (some 71) rfl rfl (by kernel_rfl) (by kernel_rfl) (by kernel_rfl) (fun _ _ _ h => h) (by kernel_rfl) ?_
                      simp only [Act.put, List.setIfInBounds_toArray, List.set_cons_zero, List.set_cons_succ]
                      refine wpAny_skip 21 (some 72) rfl rfl (by kernel_rfl) (by kernel_rfl) (by kernel_rfl) (fun _ _ _ h => h) (by kernel_rfl) ?_
                      simp only [Act.put, List.setIfInBounds_toArray, List.set_cons_zero, List.set_cons_succ]
                      refine wpAny_skip 22 (some 73) rfl rfl (by kernel_rfl) (by kernel_rfl) (by kernel_rfl) (fun _ _ _ h => h) (by kernel_rfl) ?_
                      simp only [Act.put, List.setIfInBounds_toArray, List.set_cons_zero, List.set_cons_succ]
                      refine wpAny_skip 23 (some 74) rfl rfl (by kernel_rfl) (by kernel_rfl) (by kernel_rfl) (fun _ _ _ h => h) (by kernel_rfl) ?_
                      simp only [Act.put, List.setIfInBounds_toArray, List.set_cons_zero, List.set_cons_succ]
                      refine wpAny_skip 24 (some 75) rfl rfl (by kernel_rfl) (by kernel_rfl) (by kernel_rfl) (fun _ _ _ h => h) (by kernel_rfl) ?_
                      simp only [Act.put, List.setIfInBounds_toArray, List.set_cons_zero, List.set_cons_succ]
                      refine wpAny_at (i := 25) (v := .bool false) (some 76) rfl rfl (by kernel_rfl) (by kernel_rfl) (by kernel_rfl) (fun _ _ _ h => h) (by kernel_rfl) (fun _ => ex_pick _ _ _ false (undef) (.bool false) rfl (by kernel_rfl) (by kernel_rfl) (by kernel_rfl)) ?_
                      simp only [Act.put, List.setIfInBounds_toArray, List.set_cons_zero, List.set_cons_succ]
                      refine wpAny_at (i := 26) (v := .bool false) (some 77) rfl rfl (by kernel_rfl) (by kernel_rfl) (by kernel_rfl) (fun _ _ _ h => h) (by kernel_rfl) (fun _ => ex_pick _ _ _ false (.bool true) (.bool false) rfl (by kernel_rfl) (by kernel_rfl) (by kernel_rfl)) ?_
                      simp only [Act.put, List.setIfInBounds_toArray, List.set_cons_zero, List.set_cons_succ]
                      refine wpAny_at (i := 27) (v := .bool false) (some 78) rfl rfl (by kernel_rfl) (by kernel_rfl) (by kernel_rfl) (fun _ _ _ h => h) (by kernel_rfl) (fun _ => ex_pick _ _ _ true (.bool false) (.bool false) rfl (by kernel_rfl) (by kernel_rfl) (by kernel_rfl)) ?_
                      simp only [Act.put, List.setIfInBounds_toArray, List.set_cons_zero, List.set_cons_succ]
                      refine wpAny_done (by kernel_rfl) ?_ _
                      go_wp2_with fail
                      have HR7 := Lib.hid (HR4.out.of_block (hb7.block _ HR4.out.lt))
                      have HG7 := Lib.hid (HG4.out.of_block (hb7.block _ HG4.out.lt))
                      have HA7 := Lib.hid (HA4.out.keep (hb7.block _ hq4))
                      have HB7 := Lib.hid (HB4.out.trans (hb7.mono HB4.out.size))
                      have HRE : Hid (w7.rowIs N 4 (s.size + 1) (fun j => .bool (if j < m + 1 + 1 then advF x s g j else false))) := HR7.out.congr fun j hj => by
                        by_cases h : j = m + 1
                        · rw [if_pos h, if_pos (by omega), h, HVE.out]
                        · rw [if_neg h]
                          by_cases h2 : j < m + 1
                          · rw [if_pos h2, if_pos (by omega)]
                          · rw [if_neg h2, if_neg (by omega)]
                      go_roundg (s.size + 1 - (m + 1 + 1))
                      case measure => omega
                      case rel => exact ⟨m + 1 + 1, by omega, by go_num, HRE.out, HG7.out, HA7.out, HB7.out, Nat.le_refl _⟩
                    | true =>
                      rw [hmm] at HV
                      cases hni : advF x s g m with
                      | true =>
                        rw [hni] at HV
                        have HVE : Hid (advF x s g (m + 1) = true) := by
                          show _ = _
                          rw [HV.out]
                          exact Bool.or_true _
                        refine wp_region_at 28 #[false, false, false, false, false, false, false, false, false, false, false, false, false, false, false, false, false, false, false, false, false, false, false, false, false, false, false, false] rfl rfl (by kernel_rfl) ?_
                        refine wpAny_at (i := 0) (v := .int .i64 ((m : Int) + 1)) (some 51) rfl rfl (by kernel_rfl) (by kernel_rfl) (by kernel_rfl) (fun _ _ _ h => h) (by kernel_rfl) (fun _ => ex_move _ _ rfl (by kernel_rfl)) ?_
                        simp only [Act.put, List.setIfInBounds_toArray, List.set_cons_zero, List.set_cons_succ]
                        refine wpAny_at (i := 1) (v := .bool true) (some 52) rfl rfl (by kernel_rfl) (by kernel_rfl) (by kernel_rfl) (fun _ _ _ h => h) (by kernel_rfl) (fun _ => ex_binOp .gtr 3 _ _ _ (.int .i64 ((m : Int) + 1)) (.int .i64 0) _ rfl (by kernel_rfl) (by kernel_rfl) (HGT.out _)) ?_
                        simp only [Act.put, List.setIfInBounds_toArray, List.set_cons_zero, List.set_cons_succ]
                        refine wpAny_at (i := 2) (v := .bool true) (some 53) rfl rfl (by kernel_rfl) (by kernel_rfl) (by kernel_rfl) (fun _ _ _ h => h) (by kernel_rfl) (fun _ => ex_move _ _ rfl (by kernel_rfl)) ?_
                        simp only [Act.put, List.setIfInBounds_toArray, List.set_cons_zero, List.set_cons_succ]
                        refine wpAny_at (i := 4) (v := .string s) (some 55) rfl rfl (by kernel_rfl) (by kernel_rfl) (by kernel_rfl) (fun _ _ _ h => h) (by kernel_rfl) (fun _ => ex_move _ _ rfl (by kernel_rfl)) ?_
                        simp only [Act.put, List.setIfInBounds_toArray, List.set_cons_zero, List.set_cons_succ]
                        refine wpAny_at (i := 5) (v := .int .i64 ((m : Int) + 1)) (some 56) rfl rfl (by kernel_rfl) (by kernel_rfl) (by kernel_rfl) (fun _ _ _ h => h) (by kernel_rfl) (fun _ => ex_move _ _ rfl (by kernel_rfl)) ?_
                        simp only [Act.put, List.setIfInBounds_toArray, List.set_cons_zero, List.set_cons_succ]
                        refine wpAny_at (i := 6) (v := .int .i64 m) (some 57) rfl rfl (by kernel_rfl) (by kernel_rfl) (by kernel_rfl) (fun _ _ _ h => h) (by kernel_rfl) (fun _ => ex_binOp .sub 3 _ _ _ (.int .i64 ((m : Int) + 1)) (.int .i64 1) _ rfl (by kernel_rfl) (by kernel_rfl) (HSB.out _)) ?_
                        simp only [Act.put, List.setIfInBounds_toArray, List.set_cons_zero, List.set_cons_succ]
                        refine wpAny_at (i := 7) (v := .int .u8 (s[m].toNat)) (some 58) rfl rfl (by kernel_rfl) (by kernel_rfl) (by kernel_rfl) (fun _ _ _ h => h) (by kernel_rfl) (fun _ => ex_index 9 _ _ (.string s) (.int .i64 m) _ rfl (by kernel_rfl) (by kernel_rfl) (HIX.out _)) ?_
                        simp only [Act.put, List.setIfInBounds_toArray, List.set_cons_zero, List.set_cons_succ]
                        refine wpAny_val 3 (some 54) (.agg (atC x).toArray) (by kernel_rfl) rfl rfl (by kernel_rfl) (ex_load 26 _ (.pointer (some ⟨q, 0, none⟩)) _ rfl (by kernel_rfl) (HLD.out)) ?_
                        simp only [Act.put, List.setIfInBounds_toArray, List.set_cons_zero, List.set_cons_succ]
                        refine wpAny_call 8 (some 59) (by kernel_rfl) rfl rfl (by kernel_rfl) 82 (#[.agg (atC x).toArray, .int .u8 (s[m].toNat)]) (by go_simp) (HC.out _) ?_
                        rintro e w7 ⟨rfl, hb7⟩
                        refine ⟨_, rfl, ?_⟩
                        have qa := (HG4.out.of_block (hb7.block _ HG4.out.lt)).cell (i := m) (by omega)
                        have qn := (HR4.out.of_block (hb7.block _ HR4.out.lt)).cell (i := m) (by omega)
                        have qy := (HA4.out.keep (hb7.block _ hq4)).many
                        rw [if_neg (by omega), if_pos (by omega)] at qn
                        rw [hfi] at qa
                        rw [hmm] at qy
                        rw [hni] at qn
                        have rf7 := (HR4.out.of_block (hb7.block _ HR4.out.lt)).frozen (m + 1)
                        have r7 := (HR4.out.of_block (hb7.block _ HR4.out.lt)).cell (i := m + 1) hil
                        rw [if_pos rfl] at r7
                        change wpAny _ _ _ _ _ _ (Act.put _ (some 59) _) _
                        simp only [Act.put, List.setIfInBounds_toArray, List.set_cons_zero, List.set_cons_succ]
                        refine wpAny_at (i := 9) (v := .bool true) (some 60) rfl rfl (by kernel_rfl) (by kernel_rfl) (by kernel_rfl) (fun _ _ _ h => h) (by kernel_rfl) (fun _ => ex_pick _ _ _ true (.bool true) (.bool false) rfl (by kernel_rfl) (by kernel_rfl) (by kernel_rfl)) ?_
                        simp only [Act.put, List.setIfInBounds_toArray, List.set_cons_zero, List.set_cons_succ]
                        refine wpAny_at (i := 10) (v := .bool true) (some 61) rfl rfl (by kernel_rfl) (by kernel_rfl) (by kernel_rfl) (fun _ _ _ h => h) (by kernel_rfl) (fun _ => ex_move _ _ rfl (by kernel_rfl)) ?_
                        simp only [Act.put, List.setIfInBounds_toArray, List.set_cons_zero, List.set_cons_succ]
                        refine wpAny_at (i := 11) (v := .slice (some ⟨b, 0, none⟩) (s.size + 1) (s.size + 1)) (some 62) rfl rfl (by kernel_rfl) (by kernel_rfl) (by kernel_rfl) (fun _ _ _ h => h) (by kernel_rfl) (fun _ => ex_move _ _ rfl (by kernel_rfl)) ?_
                        simp only [Act.put, List.setIfInBounds_toArray, List.set_cons_zero, List.set_cons_succ]
                        refine wpAny_at (i := 12) (v := .int .i64 ((m : Int) + 1)) (some 63) rfl rfl (by kernel_rfl) (by kernel_rfl) (by kernel_rfl) (fun _ _ _ h => h) (by kernel_rfl) (fun _ => ex_move _ _ rfl (by kernel_rfl)) ?_
                        simp only [Act.put, List.setIfInBounds_toArray, List.set_cons_zero, List.set_cons_succ]
                        refine wpAny_at (i := 13) (v := .int .i64 m) (some 64) rfl rfl (by kernel_rfl) (by kernel_rfl) (by kernel_rfl) (fun _ _ _ h => h) (by kernel_rfl) (fun _ => ex_binOp .sub 3 _ _ _ (.int .i64 ((m : Int) + 1)) (.int .i64 1) _ rfl (by kernel_rfl) (by kernel_rfl) (HSB.out _)) ?_
                        simp only [Act.put, List.setIfInBounds_toArray, List.set_cons_zero, List.set_cons_succ]
                        refine wpAny_at (i := 14) (v := .pointer (some ⟨b, m, none⟩)) (some 65) rfl rfl (by kernel_rfl) (by kernel_rfl) (by kernel_rfl) (fun _ _ _ h => h) (by kernel_rfl) (fun _ => ex_indexAddr 86 _ _ (.slice (some ⟨b, 0, none⟩) (s.size + 1) (s.size + 1)) (.int .i64 m) _ rfl (by kernel_rfl) (by kernel_rfl) (HIB.out _)) ?_
                        simp only [Act.put, List.setIfInBounds_toArray, List.set_cons_zero, List.set_cons_succ]
                        refine wpAny_val 15 (some 66) (.bool false) (by kernel_rfl) rfl rfl (by kernel_rfl) (ex_load 4 _ (.pointer (some ⟨b, m, none⟩)) _ rfl (by kernel_rfl) (by go_simp)) ?_
                        simp only [Act.put, List.setIfInBounds_toArray, List.set_cons_zero, List.set_cons_succ]
                        refine wpAny_at (i := 16) (v := .bool false) (some 67) rfl rfl (by kernel_rfl) (by kernel_rfl) (by kernel_rfl) (fun _ _ _ h => h) (by kernel_rfl) (fun _ => ex_move _ _ rfl (by kernel_rfl)) ?_
                        simp only [Act.put, List.setIfInBounds_toArray, List.set_cons_zero, List.set_cons_succ]
                        refine wpAny_at (i := 17) (v := .pointer (some ⟨q, 33, none⟩)) (some 68) rfl rfl (by kernel_rfl) (by kernel_rfl) (by kernel_rfl) (fun _ _ _ h => h) (by kernel_rfl) (fun _ => ex_fieldAddr 26 _ 2 (.pointer (some ⟨q, 0, none⟩)) _ rfl (by kernel_rfl) (by go_simp)) ?_
                        simp only [Act.put, List.setIfInBounds_toArray, List.set_cons_zero, List.set_cons_succ]
                        refine wpAny_val 18 (some 69) (.bool true) (by kernel_rfl) rfl rfl (by kernel_rfl) (ex_load 4 _ (.pointer (some ⟨q, 33, none⟩)) _ rfl (by kernel_rfl) (by go_simp)) ?_
                        simp only [Act.put, List.setIfInBounds_toArray, List.set_cons_zero, List.set_cons_succ]
                        refine wpAny_at (i := 19) (v := .bool true) (some 70) rfl rfl (by kernel_rfl) (by kernel_rfl) (by kernel_rfl) (fun _ _ _ h => h) (by kernel_rfl) (fun _ => ex_move _ _ rfl (by kernel_rfl)) ?_
                        simp only [Act.put, List.setIfInBounds_toArray, List.set_cons_zero, List.set_cons_succ]
                        refine wpAny_at (i := 20) (v := .slice (some ⟨N, 0, none⟩) (s.size + 1) (s.size + 1)) (some 71) rfl rfl (by kernel_rfl) (by kernel_rfl) (by kernel_rfl) (fun _ _ _ h => h) (by kernel_rfl) (fun _ => ex_move _ _ rfl (by kernel_rfl)) ?_
                        simp only [Act.put, List.setIfInBounds_toArray, List.set_cons_zero, List.set_cons_succ]
                        refine wpAny_at (i := 21) (v := .int .i64 ((m : Int) + 1)) (some 72) rfl rfl (by kernel_rfl) (by kernel_rfl) (by kernel_rfl) (fun _ _ _ h => h) (by kernel_rfl) (fun _ => ex_move _ _ rfl (by kernel_rfl)) ?_
                        simp only [Act.put, List.setIfInBounds_toArray, List.set_cons_zero, List.set_cons_succ]
                        refine wpAny_at (i := 22) (v := .int .i64 m) (some 73) rfl rfl (by kernel_rfl) (by kernel_rfl) (by kernel_rfl) (fun _ _ _ h => h) (by kernel_rfl) (fun _ => ex_binOp .sub 3 _ _ _ (.int .i64 ((m : Int) + 1)) (.int .i64 1) _ rfl (by kernel_rfl) (by kernel_rfl) (HSB.out _)) ?_
                        simp only [Act.put, List.setIfInBounds_toArray, List.set_cons_zero, List.set_cons_succ]
                        refine wpAny_at (i := 23) (v := .pointer (some ⟨N, m, none⟩)) (some 74) rfl rfl (by kernel_rfl) (by kernel_rfl) (by kernel_rfl) (fun _ _ _ h => h) (by kernel_rfl) (fun _ => ex_indexAddr 86 _ _ (.slice (some ⟨N, 0, none⟩) (s.size + 1) (s.size + 1)) (.int .i64 m) _ rfl (by kernel_rfl) (by kernel_rfl) (HIN.out _)) ?_
                        simp only [Act.put, List.setIfInBounds_toArray, List.set_cons_zero, List.set_cons_succ]
                        refine wpAny_val 24 (some 75) (.bool true) (by kernel_rfl) rfl rfl (by kernel_rfl) (ex_load 4 _ (.pointer (some ⟨N, m, none⟩)) _ rfl (by kernel_rfl) (by go_simp)) ?_
                        simp only [Act.put, List.setIfInBounds_toArray, List.set_cons_zero, List.set_cons_succ]
                        refine wpAny_at (i := 25) (v := .bool true) (some 76) rfl rfl (by kernel_rfl) (by kernel_rfl) (by kernel_rfl) (fun _ _ _ h => h) (by kernel_rfl) (fun _ => ex_pick _ _ _ true (.bool true) (.bool false) rfl (by kernel_rfl) (by kernel_rfl) (by kernel_rfl)) ?_
                        simp only [Act.put, List.setIfInBounds_toArray, List.set_cons_zero, List.set_cons_succ]
                        refine wpAny_at (i := 26) (v := .bool true) (some 77) rfl rfl (by kernel_rfl) (by kernel_rfl) (by kernel_rfl) (fun _ _ _ h => h) (by kernel_rfl) (fun _ => ex_pick _ _ _ false (.bool true) (.bool true) rfl (by kernel_rfl) (by kernel_rfl) (by kernel_rfl)) ?_
                        simp only [Act.put, List.setIfInBounds_toArray, List.set_cons_zero, List.set_cons_succ]
                        refine wpAny_at (i := 27) (v := .bool true) (some 78) rfl rfl (by kernel_rfl) (by kernel_rfl) (by kernel_rfl) (fun _ _ _ h => h) (by kernel_rfl) (fun _ => ex_pick _ _ _ true (.bool true) (.bool false) rfl (by kernel_rfl) (by kernel_rfl) (by kernel_rfl)) ?_
                        simp only [Act.put, List.setIfInBounds_toArray, List.set_cons_zero, List.set_cons_succ]
                        refine wpAny_done (by kernel_rfl) ?_ _
                        go_wp2_with fail
                        have HR7 := Lib.hid (HR4.out.of_block (hb7.block _ HR4.out.lt))
                        have HG7 := Lib.hid (HG4.out.of_block (hb7.block _ HG4.out.lt))
                        have HA7 := Lib.hid (HA4.out.keep (hb7.block _ hq4))
                        have HB7 := Lib.hid (HB4.out.trans (hb7.mono HB4.out.size))
                        have HRE : Hid ((w7.setCell ⟨N, m + 1, none⟩ (.bool true)).rowIs N 4 (s.size + 1) (fun j => .bool (if j < m + 1 + 1 then advF x s g j else false))) := (HR7.out.set (m + 1) (.bool true)).congr fun j hj => by
                          by_cases h : j = m + 1
                          · rw [if_pos h, if_pos (by omega), h, HVE.out]
                          · rw [if_neg h, if_neg h]
                            by_cases h2 : j < m + 1
                            · rw [if_pos h2, if_pos (by omega)]
                            · rw [if_neg h2, if_neg (by omega)]
                        go_roundg (s.size + 1 - (m + 1 + 1))
                        case measure => omega
                        case rel => exact ⟨m + 1 + 1, by omega, by go_num, HRE.out, HG7.out.of_block (Below.heap_setCell _ _ _ _ (show b ≠ N by omega)), HA7.out.keep (Below.heap_setCell _ _ _ _ (show q ≠ N by omega)), HB7.out.setCell (p := ⟨N, m + 1, none⟩) (show w.heap.size ≤ N by omega) _, Nat.le_refl _⟩
                      | false =>
                        rw [hni] at HV
                        have HVE : Hid (advF x s g (m + 1) = false) := by
                          show _ = _
                          rw [HV.out]
                          exact Bool.or_false _
                        refine wp_region_at 28 #[false, false, false, false, false, false, false, false, false, false, false, false, false, false, false, false, false, false, false, false, false, false, false, false, false, false, false, false] rfl rfl (by kernel_rfl) ?_
                        refine wpAny_at (i := 0) (v := .int .i64 ((m : Int) + 1)) (some 51) rfl rfl (by kernel_rfl) (by kernel_rfl) (by kernel_rfl) (fun _ _ _ h => h) (by kernel_rfl) (fun _ => ex_move _ _ rfl (by kernel_rfl)) ?_
                        simp only [Act.put, List.setIfInBounds_toArray, List.set_cons_zero, List.set_cons_succ]
                        refine wpAny_at (i := 1) (v := .bool true) (some 52) rfl rfl (by kernel_rfl) (by kernel_rfl) (by kernel_rfl) (fun _ _ _ h => h) (by kernel_rfl) (fun _ => ex_binOp .gtr 3 _ _ _ (.int .i64 ((m : Int) + 1)) (.int .i64 0) _ rfl (by kernel_rfl) (by kernel_rfl) (HGT.out _)) ?_
                        simp only [Act.put, List.setIfInBounds_toArray, List.set_cons_zero, List.set_cons_succ]
                        refine wpAny_at (i := 2) (v := .bool true) (some 53) rfl rfl (by kernel_rfl) (by kernel_rfl) (by kernel_rfl) (fun _ _ _ h => h) (by kernel_rfl) (fun _ => ex_move _ _ rfl (by kernel_rfl)) ?_
                        simp only [Act.put, List.setIfInBounds_toArray, List.set_cons_zero, List.set_cons_succ]
                        refine wpAny_at (i := 4) (v := .string s) (some 55) rfl rfl (by kernel_rfl) (by kernel_rfl) (by kernel_rfl) (fun _ _ _ h => h) (by kernel_rfl) (fun _ => ex_move _ _ rfl (by kernel_rfl)) ?_
                        simp only [Act.put, List.setIfInBounds_toArray, List.set_cons_zero, List.set_cons_succ]
                        refine wpAny_at (i := 5) (v := .int .i64 ((m : Int) + 1)) (some 56) rfl rfl (by kernel_rfl) (by kernel_rfl) (by kernel_rfl) (fun _ _ _ h => h) (by kernel_rfl) (fun _ => ex_move _ _ rfl (by kernel_rfl)) ?_
                        simp only [Act.put, List.setIfInBounds_toArray, List.set_cons_zero, List.set_cons_succ]
                        refine wpAny_at (i := 6) (v := .int .i64 m) (some 57) rfl rfl (by kernel_rfl) (by kernel_rfl) (by kernel_rfl) (fun _ _ _ h => h) (by kernel_rfl) (fun _ => ex_binOp .sub 3 _ _ _ (.int .i64 ((m : Int) + 1)) (.int .i64 1) _ rfl (by kernel_rfl) (by kernel_rfl) (HSB.out _)) ?_
                        simp only [Act.put, List.setIfInBounds_toArray, List.set_cons_zero, List.set_cons_succ]
                        refine wpAny_at (i := 7) (v := .int .u8 (s[m].toNat)) (some 58) rfl rfl (by kernel_rfl) (by kernel_rfl) (by kernel_rfl) (fun _ _ _ h => h) (by kernel_rfl) (fun _ => ex_index 9 _ _ (.string s) (.int .i64 m) _ rfl (by kernel_rfl) (by kernel_rfl) (HIX.out _)) ?_
                        simp only [Act.put, List.setIfInBounds_toArray, List.set_cons_zero, List.set_cons_succ]
                        refine wpAny_val 3 (some 54) (.agg (atC x).toArray) (by kernel_rfl) rfl rfl (by kernel_rfl) (ex_load 26 _ (.pointer (some ⟨q, 0, none⟩)) _ rfl (by kernel_rfl) (HLD.out)) ?_
                        simp only [Act.put, List.setIfInBounds_toArray, List.set_cons_zero, List.set_cons_succ]
                        refine wpAny_call 8 (some 59) (by kernel_rfl) rfl rfl (by kernel_rfl) 82 (#[.agg (atC x).toArray, .int .u8 (s[m].toNat)]) (by go_simp) (HC.out _) ?_
                        rintro e w7 ⟨rfl, hb7⟩
                        refine ⟨_, rfl, ?_⟩
                        have qa := (HG4.out.of_block (hb7.block _ HG4.out.lt)).cell (i := m) (by omega)
                        have qn := (HR4.out.of_block (hb7.block _ HR4.out.lt)).cell (i := m) (by omega)
                        have qy := (HA4.out.keep (hb7.block _ hq4)).many
                        rw [if_neg (by omega), if_pos (by omega)] at qn
                        rw [hfi] at qa
                        rw [hmm] at qy
                        rw [hni] at qn
                        have rf7 := (HR4.out.of_block (hb7.block _ HR4.out.lt)).frozen (m + 1)
                        have r7 := (HR4.out.of_block (hb7.block _ HR4.out.lt)).cell (i := m + 1) hil
                        rw [if_pos rfl] at r7
                        change wpAny _ _ _ _ _ _ (Act.put _ (some 59) _) _
                        simp only [Act.put, List.setIfInBounds_toArray, List.set_cons_zero, List.set_cons_succ]
                        refine wpAny_at (i := 9) (v := .bool true) (some 60) rfl rfl (by kernel_rfl) (by kernel_rfl) (by kernel_rfl) (fun _ _ _ h => h) (by kernel_rfl) (fun _ => ex_pick _ _ _ true (.bool true) (.bool false) rfl (by kernel_rfl) (by kernel_rfl) (by kernel_rfl)) ?_
                        simp only [Act.put, List.setIfInBounds_toArray, List.set_cons_zero, List.set_cons_succ]
                        refine wpAny_at (i := 10) (v := .bool true) (some 61) rfl rfl (by kernel_rfl) (by kernel_rfl) (by kernel_rfl) (fun _ _ _ h => h) (by kernel_rfl) (fun _ => ex_move _ _ rfl (by kernel_rfl)) ?_
                        simp only [Act.put, List.setIfInBounds_toArray, List.set_cons_zero, List.set_cons_succ]
                        refine wpAny_at (i := 11) (v := .slice (some ⟨b, 0, none⟩) (s.size + 1) (s.size + 1)) (some 62) rfl rfl (by kernel_rfl) (by kernel_rfl) (by kernel_rfl) (fun _ _ _ h => h) (by kernel_rfl) (fun _ => ex_move _ _ rfl (by kernel_rfl)) ?_
                        simp only [Act.put, List.setIfInBounds_toArray, List.set_cons_zero, List.set_cons_succ]
                        refine wpAny_at (i := 12) (v := .int .i64 ((m : Int) + 1)) (some 63) rfl rfl (by kernel_rfl) (by kernel_rfl) (by kernel_rfl) (fun _ _ _ h => h) (by kernel_rfl) (fun _ => ex_move _ _ rfl (by kernel_rfl)) ?_
                        simp only [Act.put, List.setIfInBounds_toArray, List.set_cons_zero, List.set_cons_succ]
                        refine wpAny_at (i := 13) (v := .int .i64 m) (some 64) rfl rfl (by kernel_rfl) (by kernel_rfl) (by kernel_rfl) (fun _ _ _ h => h) (by kernel_rfl) (fun _ => ex_binOp .sub 3 _ _ _ (.int .i64 ((m : Int) + 1)) (.int .i64 1) _ rfl (by kernel_rfl) (by kernel_rfl) (HSB.out _)) ?_
                        simp only [Act.put, List.setIfInBounds_toArray, List.set_cons_zero, List.set_cons_succ]
                        refine wpAny_at (i := 14) (v := .pointer (some ⟨b, m, none⟩)) (some 65) rfl rfl (by kernel_rfl) (by kernel_rfl) (by kernel_rfl) (fun _ _ _ h => h) (by kernel_rfl) (fun _ => ex_indexAddr 86 _ _ (.slice (some ⟨b, 0, none⟩) (s.size + 1) (s.size + 1)) (.int .i64 m) _ rfl (by kernel_rfl) (by kernel_rfl) (HIB.out _)) ?_
                        simp only [Act.put, List.setIfInBounds_toArray, List.set_cons_zero, List.set_cons_succ]
                        refine wpAny_val 15 (some 66) (.bool false) (by kernel_rfl) rfl rfl (by kernel_rfl) (ex_load 4 _ (.pointer (some ⟨b, m, none⟩)) _ rfl (by kernel_rfl) (by go_simp)) ?_
                        simp only [Act.put, List.setIfInBounds_toArray, List.set_cons_zero, List.set_cons_succ]
                        refine wpAny_at (i := 16) (v := .bool false) (some 67) rfl rfl (by kernel_rfl) (by kernel_rfl) (by kernel_rfl) (fun _ _ _ h => h) (by kernel_rfl) (fun _ => ex_move _ _ rfl (by kernel_rfl)) ?_
                        simp only [Act.put, List.setIfInBounds_toArray, List.set_cons_zero, List.set_cons_succ]
                        refine wpAny_at (i := 17) (v := .pointer (some ⟨q, 33, none⟩)) (some 68) rfl rfl (by kernel_rfl) (by kernel_rfl) (by kernel_rfl) (fun _ _ _ h => h) (by kernel_rfl) (fun _ => ex_fieldAddr 26 _ 2 (.pointer (some ⟨q, 0, none⟩)) _ rfl (by kernel_rfl) (by go_simp)) ?_
                        simp only [Act.put, List.setIfInBounds_toArray, List.set_cons_zero, List.set_cons_succ]
                        refine wpAny_val 18 (some 69) (.bool true) (by kernel_rfl) rfl rfl (by kernel_rfl) (ex_load 4 _ (.pointer (some ⟨q, 33, none⟩)) _ rfl (by kernel_rfl) (by go_simp)) ?_
                        simp only [Act.put, List.setIfInBounds_toArray, List.set_cons_zero, List.set_cons_succ]
                        refine wpAny_at (i := 19) (v := .bool true) (some 70) rfl rfl (by kernel_rfl) (by kernel_rfl) (by kernel_rfl) (fun _ _ _ h => h) (by kernel_rfl) (fun _ => ex_move _ _ rfl (by kernel_rfl)) ?_
                        simp only [Act.put, List.setIfInBounds_toArray, List.set_cons_zero, List.set_cons_succ]
                        refine wpAny_at (i := 20) (v := .slice (some ⟨N, 0, none⟩) (s.size + 1) (s.size + 1)) (some 71) rfl rfl (by kernel_rfl) (by kernel_rfl) (by kernel_rfl) (fun _ _ _ h => h) (by kernel_rfl) (fun _ => ex_move _ _ rfl (by kernel_rfl)) ?_
                        simp only [Act.put, List.setIfInBounds_toArray, List.set_cons_zero, List.set_cons_succ]
                        refine wpAny_at (i := 21) (v := .int .i64 ((m : Int) + 1)) (some 72) rfl rfl (by kernel_rfl) (by kernel_rfl) (by kernel_rfl) (fun _ _ _ h => h) (by kernel_rfl) (fun _ => ex_move _ _ rfl (by kernel_rfl)) ?_
                        simp only [Act.put, List.setIfInBounds_toArray, List.set_cons_zero, List.set_cons_succ]
                        refine wpAny_at (i := 22) (v := .int .i64 m) (some 73) rfl rfl (by kernel_rfl) (by kernel_rfl) (by kernel_rfl) (fun _ _ _ h => h) (by kernel_rfl) (fun _ => ex_binOp .sub 3 _ _ _ (.int .i64 ((m : Int) + 1)) (.int .i64 1) _ rfl (by kernel_rfl) (by kernel_rfl) (HSB.out _)) ?_
                        simp only [Act.put, List.setIfInBounds_toArray, List.set_cons_zero, List.set_cons_succ]
                        refine wpAny_at (i := 23) (v := .pointer (some ⟨N, m, none⟩)) (some 74) rfl rfl (by kernel_rfl) (by kernel_rfl) (by kernel_rfl) (fun _ _ _ h => h) (by kernel_rfl) (fun _ => ex_indexAddr 86 _ _ (.slice (some ⟨N, 0, none⟩) (s.size + 1) (s.size + 1)) (.int .i64 m) _ rfl (by kernel_rfl) (by kernel_rfl) (HIN.out _)) ?_
                        simp only [Act.put, List.setIfInBounds_toArray, List.set_cons_zero, List.set_cons_succ]
                        refine wpAny_val 24 (some 75) (.bool false) (by kernel_rfl) rfl rfl (by kernel_rfl) (ex_load 4 _ (.pointer (some ⟨N, m, none⟩)) _ rfl (by kernel_rfl) (by go_simp)) ?_
                        simp only [Act.put, List.setIfInBounds_toArray, List.set_cons_zero, List.set_cons_succ]
                        refine wpAny_at (i := 25) (v := .bool false) (some 76) rfl rfl (by kernel_rfl) (by kernel_rfl) (by kernel_rfl) (fun _ _ _ h => h) (by kernel_rfl) (fun _ => ex_pick _ _ _ true (.bool false) (.bool false) rfl (by kernel_rfl) (by kernel_rfl) (by kernel_rfl)) ?_
                        simp only [Act.put, List.setIfInBounds_toArray, List.set_cons_zero, List.set_cons_succ]
                        refine wpAny_at (i := 26) (v := .bool false) (some 77) rfl rfl (by kernel_rfl) (by kernel_rfl) (by kernel_rfl) (fun _ _ _ h => h) (by kernel_rfl) (fun _ => ex_pick _ _ _ false (.bool true) (.bool false) rfl (by kernel_rfl) (by kernel_rfl) (by kernel_rfl)) ?_
                        simp only [Act.put, List.setIfInBounds_toArray, List.set_cons_zero, List.set_cons_succ]
                        refine wpAny_at (i := 27) (v := .bool false) (some 78) rfl rfl (by kernel_rfl) (by kernel_rfl) (by kernel_rfl) (fun _ _ _ h => h) (by kernel_rfl) (fun _ => ex_pick _ _ _ true (.bool false) (.bool false) rfl (by kernel_rfl) (by kernel_rfl) (by kernel_rfl)) ?_
                        simp only [Act.put, List.setIfInBounds_toArray, List.set_cons_zero, List.set_cons_succ]
                        refine wpAny_done (by kernel_rfl) ?_ _
                        go_wp2_with fail
                        have HR7 := Lib.hid (HR4.out.of_block (hb7.block _ HR4.out.lt))
                        have HG7 := Lib.hid (HG4.out.of_block (hb7.block _ HG4.out.lt))
                        have HA7 := Lib.hid (HA4.out.keep (hb7.block _ hq4))
                        have HB7 := Lib.hid (HB4.out.trans (hb7.mono HB4.out.size))
                        have HRE : Hid (w7.rowIs N 4 (s.size + 1) (fun j => .bool (if j < m + 1 + 1 then advF x s g j else false))) := HR7.out.congr fun j hj => by
                          by_cases h : j = m + 1
                          · rw [if_pos h, if_pos (by omega), h, HVE.out]
                          · rw [if_neg h]
                            by_cases h2 : j < m + 1
                            · rw [if_pos h2, if_pos (by omega)]
                            · rw [if_neg h2, if_neg (by omega)]
                        go_roundg (s.size + 1 - (m + 1 + 1))
                        case measure => omega
                        case rel => exact ⟨m + 1 + 1, by omega, by go_num, HRE.out, HG7.out, HA7.out, HB7.out, Nat.le_refl _⟩
          · obtain rfl : i = s.size + 1 := by omega
            have hii : ¬ (((s.size + 1 : Nat)) : Int) < (s.size : Int) + 1 := by omega
            have HRE : Hid (wr.rowIs N 4 (s.size + 1) (fun j => .bool (advF x s g j))) := HR.out.congr fun j hj => by rw [if_pos hj]
            go_wp2_with fail
            go_roundg (l.length - (k + 1))
            case measure => omega
            case rel => exact ⟨k + 1, N, advF x s g, rfl, by go_num, by omega, by omega, HRE.out, HX2.out, HB.out, Nat.le_refl _⟩
      · have hki2 : ¬ (k : Int) < (l.length : Int) := by omega
        have HE : Hid (g = R) := by
          have h := HX.out
          rw [List.drop_eq_nil_of_le (by omega)] at h
          exact h
        go_wp2_with fail
        go_ret
        rw [HE.out] at HG
        exact ⟨b, rfl, hbw, HG.out, HB.out⟩

end Go.Proofs.YtpboaadjbkaidaaDoor

namespace Go.Proofs.YtpboaadjbkaidaaDoor
set_option maxRecDepth 100000
open Go.RowKit

section
variable {P : Program} {ops : Array Oper} {w : World} {a : Act}
theorem wp_of_val {o : Oper} {v : Value} {K : Act → World → Prop} {QE : Exit → Act → World → Prop} (hv : (execOp a.eval o).run P w = .ok (.value v) w) (h : K (a.put o.dst v) w) : Oper.wp P o a w K QE := by
  show Oper.upon _ _ _ _ _ _
  rw [hv]
  exact h
theorem wp_of_call {o : Oper} {f : FuncId} {vs : Array Value} {K : Act → World → Prop} {QE : Exit → Act → World → Prop} (hrun : (execOp a.eval o).run P w = .ok (.enter f vs) w) {Post : Ending → World → Prop} (hc : Calls P f vs w Post)
    (h : ∀ e w', Post e w' → ∃ v, e = .returned v ∧ K (a.put o.dst v) w') : Oper.wp P o a w K QE := by
  show Oper.upon _ _ _ _ _ _
  rw [hrun, Oper.upon_enter]
  refine hc.mono fun e w' hp => ?_
  obtain ⟨v, rfl, hv⟩ := h e w' hp
  exact hv
theorem wpAny_vals {md : Region.Mode} {QE : Exit → Act → World → Prop} (i j : Nat) (d e : Option Tmp) (v u : Value) {oi oj : Oper} {fuel : Nat} {listed : Array Bool} {rs rs2 : List Oper} (hr : Region.ready md ops listed = [i, j]) (hi : ops.toList.drop i = oi :: rs) (hj : ops.toList.drop j = oj :: rs2) (hd : oi.dst = d) (he : oj.dst = e)
    (hwi : Region.wanted oi (yielded ops a.tmps) = true) (hwj : Region.wanted oj (yielded ops a.tmps) = true) (hv : (execOp a.eval oi).run P w = .ok (.value v) w) (hu : (execOp a.eval oj).run P w = .ok (.value u) w)
    (h1 : wpAny P md ops QE fuel (listed.setIfInBounds i true) (a.put d v) w) (h2 : wpAny P md ops QE fuel (listed.setIfInBounds j true) (a.put e u) w) : wpAny P md ops QE (fuel + 1) listed a w := by
  subst hd he
  exact wpAny_two i j hr hi hj hwi hwj (wp_of_val hv h1) (wp_of_val hu h2)
/-- A call and a reading operation. -/
theorem wpAny_callval {md : Region.Mode} {QE : Exit → Act → World → Prop} (i j : Nat) (d e : Option Tmp) (u : Value) {oi oj : Oper} {fuel : Nat} {listed : Array Bool} {rs rs2 : List Oper} (hr : Region.ready md ops listed = [i, j]) (hi : ops.toList.drop i = oi :: rs) (hj : ops.toList.drop j = oj :: rs2) (hd : oi.dst = d) (he : oj.dst = e)
    (hwi : Region.wanted oi (yielded ops a.tmps) = true) (hwj : Region.wanted oj (yielded ops a.tmps) = true) (f : FuncId) (vs : Array Value) (hrun : (execOp a.eval oi).run P w = .ok (.enter f vs) w) {Post : Ending → World → Prop} (hc : Calls P f vs w Post) (hu : (execOp a.eval oj).run P w = .ok (.value u) w)
    (h1 : ∀ e' w', Post e' w' → ∃ v, e' = .returned v ∧ wpAny P md ops QE fuel (listed.setIfInBounds i true) (a.put d v) w') (h2 : wpAny P md ops QE fuel (listed.setIfInBounds j true) (a.put e u) w) : wpAny P md ops QE (fuel + 1) listed a w := by
  subst hd he
  exact wpAny_two i j hr hi hj hwi hwj (wp_of_call hrun hc h1) (wp_of_val hu h2)
end

end Go.Proofs.YtpboaadjbkaidaaDoor

namespace Go.Proofs.YtpboaadjbkaidaaDoor
set_option maxRecDepth 100000
open Go.RowKit

/-- Block g holds n atoms, which may be written. -/
def RowA (w : World) (g n : Nat) (q : Nat → At) : Prop := g < w.heap.size ∧ ∀ t, t < n → w.rangeAt g (t * 34) (atC (q t)) ∧ w.there g (t * 34) 34
theorem RowA.congr {w : World} {g n : Nat} {q r : Nat → At} (h : RowA w g n q) (e : ∀ t, t < n → q t = r t) : RowA w g n r :=
  ⟨h.1, fun t ht => by rw [← e t ht]; exact h.2 t ht⟩
theorem RowA.drew {w : World} {g n : Nat} {q : Nat → At} (h : RowA w g n q) : RowA w.drew g n q := h
theorem setCells_size (g : Nat) : ∀ (vs : List Value) (o : Nat) (w : World), (w.setCells g o vs).heap.size = w.heap.size
  | [], _, _ => rfl
  | v :: r, o, w => by rw [World.setCells, setCells_size g r]; simp [World.setCell]
theorem below_setCells {B : Nat} {a : World} {g : Nat} (hg : B ≤ g) : ∀ (vs : List Value) (o : Nat) (w : World), Below B a w → Below B a (w.setCells g o vs)
  | [], _, _, h => h
  | v :: r, o, w, h => by rw [World.setCells]; exact below_setCells hg r _ _ (h.setCell (p := ⟨g, o, none⟩) hg v)
theorem RowA.set {w : World} {g n : Nat} {q : Nat → At} (h : RowA w g n q) (i : Nat) (hi : i < n) (x : At) : RowA (w.setCells g (i * 34) (atC x)) g n (fun t => if t = i then x else q t) :=
  ⟨by rw [setCells_size]; exact h.1, fun t ht => by
    refine ⟨?_, World.there_setCells (h.2 t ht).2 _ _ _⟩
    by_cases hti : t = i
    · subst hti
      show (w.setCells g (t * 34) (atC x)).rangeAt g (t * 34) (atC (if t = t then x else q t))
      rw [if_pos rfl]
      exact World.rangeAt_setCells_same w g (t * 34) (atC x) (by rw [atC_len]; exact (h.2 t ht).2)
    · show (w.setCells g (i * 34) (atC x)).rangeAt g (t * 34) (atC (if t = i then x else q t))
      rw [if_neg hti]
      refine World.rangeAt_setCells_apart (h.2 t ht).1 _ _ _ (.inr ?_)
      rw [atC_len, atC_len]
      omega⟩
def atAt (l : List At) (t : Nat) : At := l.getD t ⟨noP, 0, false⟩
theorem atAt_get (l : List At) (t : Nat) (h : t < l.length) : l[t]? = some (atAt l t) := by
  unfold atAt
  rw [List.getD_eq_getElem?_getD, List.getElem?_eq_getElem h]
  rfl
theorem RowA.of {w : World} {B g cap : Nat} {l : List At} (h : OwnE 26 atC 34 w B (.slice (some ⟨g, 0, none⟩) l.length cap) l) : RowA w g l.length (atAt l) ∧ B ≤ g := by
  obtain ⟨h0, h1 | ⟨g', cap', cur, hv, hbg, hg, hn, hm, hs, ht⟩⟩ := h
  · exact absurd h1.1 (by simp)
  injection hv with e1 _ _
  injection e1 with e1
  injection e1 with e1 _ _
  subst e1
  refine ⟨⟨(Array.getElem?_eq_some_iff.1 hg).1, fun t ht2 => ?_⟩, hbg⟩
  have hlt : ∀ j, j < 34 → t * 34 + j < l.length * 34 := fun j hj => by
    have : (t + 1) * 34 ≤ l.length * 34 := Nat.mul_le_mul_right _ ht2
    omega
  have hcell : ∀ j, j < 34 → w.cell? ⟨g, t * 34 + j, none⟩ = (atC (atAt l t))[j]? := fun j hj => by
    rw [cell_of_row _ _ _ _ _ _ hg]
    have h2 := flat_get atC 34 atC_len l t j (atAt l t) (atAt_get l t ht2) hj
    rw [← h2, ← ht, List.getElem?_take_of_lt (hlt j hj)]
    simp
  refine ⟨fun j v hj => ?_, fun j hj => ⟨?_, frozen_of_row _ _ _ _ _ hg⟩⟩
  · have hj34 : j < 34 := by rw [← atC_len (atAt l t)]; exact (List.getElem?_eq_some_iff.1 hj).1
    rw [hcell j hj34, hj]
  · rw [hcell j hj, List.getElem?_eq_getElem (by rw [atC_len]; exact hj)]
    rfl
theorem RowA.rd {w : World} {g n c : Nat} {q : Nat → At} (h : RowA w g n q) (l : List At) (hl : l.length = n) (hc : n ≤ c) (hq : ∀ t x, l[t]? = some x → q t = x) : RdE atC 34 w (.slice (some ⟨g, 0, none⟩) n c) l := by
  subst hl
  refine ⟨some ⟨g, 0, none⟩, c, rfl, hc, (fun e => by cases e), fun _ => ⟨g, 0, rfl, h.1, fun i x j u hi hj => ?_⟩⟩
  have hin := (List.getElem?_eq_some_iff.1 hi).1
  have := (h.2 i hin).1 j u (by rw [hq i x hi]; exact hj)
  rw [Nat.zero_add]
  exact this
/-- The first i and the last i exchanged. -/
def mirr (n i : Nat) (L : Nat → At) (t : Nat) : At := if t < i ∨ n ≤ t + i then L (n - 1 - t) else L t
theorem mirr_zero (n : Nat) (L : Nat → At) : ∀ t, t < n → L t = mirr n 0 L t := fun t ht => by
  unfold mirr
  rw [if_neg (by omega)]
theorem mirr_step (n i j : Nat) (L : Nat → At) (hj : j + i + 1 = n) (hij : i < j) : ∀ t, t < n →
    (if t = j then mirr n i L i else if t = i then mirr n i L j else mirr n i L t) = mirr n (i + 1) L t := fun t ht => by
  unfold mirr
  by_cases h1 : t = j
  · rw [if_pos h1, if_neg (show ¬ (i < i ∨ n ≤ i + i) by omega), if_pos (show t < i + 1 ∨ n ≤ t + (i + 1) by omega)]
    congr 1
    omega
  · rw [if_neg h1]
    by_cases h2 : t = i
    · rw [if_pos h2, if_neg (show ¬ (j < i ∨ n ≤ j + i) by omega), if_pos (show t < i + 1 ∨ n ≤ t + (i + 1) by omega)]
      congr 1
      omega
    · rw [if_neg h2]
      by_cases h3 : t < i ∨ n ≤ t + i
      · rw [if_pos h3, if_pos (show t < i + 1 ∨ n ≤ t + (i + 1) by omega)]
      · rw [if_neg h3, if_neg (show ¬ (t < i + 1 ∨ n ≤ t + (i + 1)) by omega)]
theorem mirr_end (n i : Nat) (L : Nat → At) (h1 : n ≤ 2 * i + 1) : ∀ t, t < n → mirr n i L t = L (n - 1 - t) := fun t ht => by
  unfold mirr
  by_cases h3 : t < i ∨ n ≤ t + i
  · rw [if_pos h3]
  · rw [if_neg h3]
    congr 1
    omega
theorem rev_at (l : List At) (t : Nat) (x : At) (h : l.reverse[t]? = some x) : atAt l (l.length - 1 - t) = x := by
  have ht : t < l.length := by simpa using (List.getElem?_eq_some_iff.1 h).1
  rw [List.getElem?_reverse ht, atAt_get l (l.length - 1 - t) (by omega)] at h
  exact Option.some.inj h
def RetRd (w : World) (B : Nat) (l : List At) (e : Ending) (w' : World) : Prop := ∃ v, e = .returned v ∧ RdE atC 34 w' v l ∧ Below B w w'
def RetOwnA (w : World) (l : List At) (e : Ending) (w' : World) : Prop := ∃ v, e = .returned v ∧ OwnE 26 atC 34 w' w.heap.size v l ∧ Below w.heap.size w w'

set_option maxRecDepth 100000 in
set_option maxHeartbeats 4000000 in
theorem clone_any (l : List At) (v : Value) (w : World) (hp : RdE atC 34 w v l) (hl : l.length ≤ 140737488355) :
    Calls Tryd.prog 83 #[v] w (RetOwnA w l) := by
  obtain ⟨R, HRR⟩ : ∃ R, Hid (R = RetOwnA w l) := ⟨_, rfl⟩
  rw [← HRR.out]
  have q22 : ∀ (w : World) (a : Option Addr) (n c n' c' : Nat), (binOp .eql 28 (.slice a n c) (.slice none n' c')).run Tryd.prog w = .ok (.bool a.isNone) w := fun w a n c n' c' => Lib.run_eql_slice_nil w _ _ a n c n' c' Tryd.underlying28
  obtain ⟨A, c, rfl, hlc, hn⟩ := hp.shape
  have HP := Lib.hid hp
  clear hp
  rcases A with _ | ad
  · have hc0 := hn rfl
    obtain rfl : l = [] := List.eq_nil_of_length_eq_zero (by omega)
    obtain rfl : c = 0 := hc0
    clear hn
    go_enter Tryd.func83, Tryd.ntmps83
    go_wp2_with fail
    rw [HRR.out]
    exact ⟨_, rfl, OwnE.nil, Below.refl _ _⟩
  · clear hn
    have HO : Hid (OwnE 26 atC 34 (w.alloc (.cells #[] 26)) w.heap.size (.slice (some ⟨w.heap.size, 0, none⟩) 0 0) []) := World.ownsRow_made (base := w.heap.size) (e := 26) (size := 34) w #[] 0 (Nat.le_refl _) (by decide) rfl
    have HQ := Lib.hid (HP.out.alloc (.cells #[] 26))
    go_enter Tryd.func83, Tryd.ntmps83
    go_wp2_with (refine wpList_appE rfl (.tmp 5) (.tmp 6) 28 26 rfl Tryd.underlying28 _ atC 34 48 atom_info rfl (by decide) atC_len atC_one w.heap.size (.slice (some ⟨w.heap.size, 0, none⟩) 0 0) [] rfl HO.out _ l rfl HQ.out (by simp only [List.length_nil]; omega) (by decide) (by simp) ?_; intro v1 w1 hown1 hbel1 hgrow1)
    rw [HRR.out]
    exact ⟨v1, rfl, hown1, hbel1 w.heap.size w (Nat.le_refl _) ((Below.refl _ w).alloc (Nat.le_refl _) _)⟩

set_option maxRecDepth 100000 in
set_option maxHeartbeats 8000000 in
theorem turn_any (B g c n : Nat) (L : Nat → At) (w : World) (hr : RowA w g n L) (hB : B ≤ g) (hn : n ≤ 140737488355) :
    Calls Tryd.prog 84 #[.slice (some ⟨g, 0, none⟩) n c] w fun e w' => e = .returned (.tuple #[]) ∧ RowA w' g n (fun t => L (n - 1 - t)) ∧ Below B w w' := by
  have hu := Tryd.underlying26
  have hi : (Tryd.prog.info? 26).map (·.size) = some 34 := atom_size
  have HR0 := Lib.hid (hr.congr (mirr_zero n L))
  have HB0 := Lib.hid (Below.refl B w)
  clear hr
  go_enter Tryd.func84, Tryd.ntmps84
  go_wp2_with fail
  obtain ⟨wo, HW⟩ : ∃ wo : World, Hid (wo = w) := ⟨w, rfl⟩
  go_loopg [2, 3] (n + 1) (fun m iv jv wr => ∃ i : Nat, iv = .int .i64 i ∧ jv = .int .i64 ((n : Int) - 1 - i) ∧ 2 * i ≤ n ∧ Hid (RowA wr g n (mirr n i L)) ∧ Hid (Below B w wr) ∧ n - i ≤ m)
  case atStart => exact ⟨0, rfl, by simp, by omega, HR0.out, HB0.out, by omega⟩
  case round =>
    clear HR0 HB0
    obtain ⟨i, rfl, rfl, hi2, HR, HB, hm⟩ := hrel
    by_cases hlt : 2 * i + 1 < n
    · have hlti : (i : Int) < (n : Int) - 1 - (i : Int) := by omega
      obtain ⟨j, hj⟩ : ∃ j, j + i + 1 = n := ⟨n - 1 - i, by omega⟩
      have hij : i < j := by omega
      have hin : (i : Int) < (n : Int) := by omega
      have hjn : (j : Int) < (n : Int) := by omega
      obtain ⟨k, hk⟩ : ∃ k : Int, k = (n : Int) - 1 - (i : Int) := ⟨_, rfl⟩
      rw [← hk] at hlti ⊢
      obtain rfl : k = (j : Int) := by omega
      clear hk
      have hji : (i : Int) < (j : Int) := by omega
      obtain ⟨q, HQ⟩ : ∃ q, Hid (q = mirr n i L) := ⟨_, rfl⟩
      have HST : Hid (∀ t, t < n → (if t = j then q i else if t = i then q j else q t) = mirr n (i + 1) L t) := by
        show _
        rw [HQ.out]
        exact mirr_step n i j L hj hij
      rw [← HQ.out] at HR
      clear HQ hlti
      have S1 : Hid (wr.drew.there g (i * 34) (atC (q j)).length) := by show World.there _ _ _ _; rw [atC_len]; exact (HR.out.drew.2 i (by omega)).2
      have HR1 := Lib.hid (HR.out.drew.set i (by omega) (q j))
      have S2 : Hid ((wr.drew.setCells g (i * 34) (atC (q j))).there g (j * 34) (atC (q i)).length) := by show World.there _ _ _ _; rw [atC_len]; exact (HR1.out.2 j (by omega)).2
      have HR2 := Lib.hid ((HR1.out.set j (by omega) (q i)).congr HST.out)
      have HB2 := Lib.hid (below_setCells hB (atC (q i)) (j * 34) _ (below_setCells hB (atC (q j)) (i * 34) _ HB.out.drew))
      have hsz1 : (Tryd.prog.info? 26).map (·.size) = some (atC (q j)).length := by rw [hi, atC_len]
      have hsz2 : (Tryd.prog.info? 26).map (·.size) = some (atC (q i)).length := by rw [hi, atC_len]
      have HI1 : Hid (∀ w, (Instr.indexAt 28 (.slice (some ⟨g, 0, none⟩) n c) (.int .i64 i)).run Tryd.prog w = .ok (.pointer (some ⟨g, i * 34, none⟩)) w) := fun w => by go_simp
      have HI2 : Hid (∀ w, (Instr.indexAt 28 (.slice (some ⟨g, 0, none⟩) n c) (.int .i64 j)).run Tryd.prog w = .ok (.pointer (some ⟨g, j * 34, none⟩)) w) := fun w => by go_simp
      go_wp2_with fail
      refine wp_region_at 16 #[false, false, false, false, false, false, false, false, false, false, false, false, false, false, false, false] rfl rfl (by kernel_rfl) ?_
      refine wpAny_at (i := 0) (v := .slice (some ⟨g, 0, none⟩) n c) (some 14) rfl rfl (by kernel_rfl) (by kernel_rfl) (by kernel_rfl) (fun _ _ _ h => h) (by kernel_rfl) (fun _ => ex_move _ _ rfl (by kernel_rfl)) ?_
      simp only [Act.put, List.setIfInBounds_toArray, List.set_cons_zero, List.set_cons_succ]
      refine wpAny_at (i := 1) (v := .int .i64 i) (some 15) rfl rfl (by kernel_rfl) (by kernel_rfl) (by kernel_rfl) (fun _ _ _ h => h) (by kernel_rfl) (fun _ => ex_move _ _ rfl (by kernel_rfl)) ?_
      simp only [Act.put, List.setIfInBounds_toArray, List.set_cons_zero, List.set_cons_succ]
      refine wpAny_at (i := 2) (v := .slice (some ⟨g, 0, none⟩) n c) (some 16) rfl rfl (by kernel_rfl) (by kernel_rfl) (by kernel_rfl) (fun _ _ _ h => h) (by kernel_rfl) (fun _ => ex_move _ _ rfl (by kernel_rfl)) ?_
      simp only [Act.put, List.setIfInBounds_toArray, List.set_cons_zero, List.set_cons_succ]
      refine wpAny_at (i := 3) (v := .int .i64 j) (some 17) rfl rfl (by kernel_rfl) (by kernel_rfl) (by kernel_rfl) (fun _ _ _ h => h) (by kernel_rfl) (fun _ => ex_move _ _ rfl (by kernel_rfl)) ?_
      simp only [Act.put, List.setIfInBounds_toArray, List.set_cons_zero, List.set_cons_succ]
      refine wpAny_at (i := 4) (v := .slice (some ⟨g, 0, none⟩) n c) (some 18) rfl rfl (by kernel_rfl) (by kernel_rfl) (by kernel_rfl) (fun _ _ _ h => h) (by kernel_rfl) (fun _ => ex_move _ _ rfl (by kernel_rfl)) ?_
      simp only [Act.put, List.setIfInBounds_toArray, List.set_cons_zero, List.set_cons_succ]
      refine wpAny_at (i := 5) (v := .int .i64 j) (some 19) rfl rfl (by kernel_rfl) (by kernel_rfl) (by kernel_rfl) (fun _ _ _ h => h) (by kernel_rfl) (fun _ => ex_move _ _ rfl (by kernel_rfl)) ?_
      simp only [Act.put, List.setIfInBounds_toArray, List.set_cons_zero, List.set_cons_succ]
      refine wpAny_at (i := 6) (v := .pointer (some ⟨g, j * 34, none⟩)) (some 20) rfl rfl (by kernel_rfl) (by kernel_rfl) (by kernel_rfl) (fun _ _ _ h => h) (by kernel_rfl) (fun _ => ex_indexAddr 28 _ _ (.slice (some ⟨g, 0, none⟩) n c) (.int .i64 j) _ rfl (by kernel_rfl) (by kernel_rfl) (HI2.out _)) ?_
      simp only [Act.put, List.setIfInBounds_toArray, List.set_cons_zero, List.set_cons_succ]
      refine wpAny_at (i := 8) (v := .slice (some ⟨g, 0, none⟩) n c) (some 22) rfl rfl (by kernel_rfl) (by kernel_rfl) (by kernel_rfl) (fun _ _ _ h => h) (by kernel_rfl) (fun _ => ex_move _ _ rfl (by kernel_rfl)) ?_
      simp only [Act.put, List.setIfInBounds_toArray, List.set_cons_zero, List.set_cons_succ]
      refine wpAny_at (i := 9) (v := .int .i64 i) (some 23) rfl rfl (by kernel_rfl) (by kernel_rfl) (by kernel_rfl) (fun _ _ _ h => h) (by kernel_rfl) (fun _ => ex_move _ _ rfl (by kernel_rfl)) ?_
      simp only [Act.put, List.setIfInBounds_toArray, List.set_cons_zero, List.set_cons_succ]
      refine wpAny_at (i := 10) (v := .pointer (some ⟨g, i * 34, none⟩)) (some 24) rfl rfl (by kernel_rfl) (by kernel_rfl) (by kernel_rfl) (fun _ _ _ h => h) (by kernel_rfl) (fun _ => ex_indexAddr 28 _ _ (.slice (some ⟨g, 0, none⟩) n c) (.int .i64 i) _ rfl (by kernel_rfl) (by kernel_rfl) (HI1.out _)) ?_
      simp only [Act.put, List.setIfInBounds_toArray, List.set_cons_zero, List.set_cons_succ]
      refine wpAny_loads 7 11 (some 21) (some 25) (by kernel_rfl) rfl rfl rfl rfl (by kernel_rfl) (by kernel_rfl) 26 (.tmp 20) rfl (g) (j * 34) (by kernel_rfl) (atC (q j)) _ ((HR.out.drew.2 j (by omega)).1) hu rfl (by rw [hi, atC_len]) 26 (.tmp 24) rfl (g) (i * 34) (by kernel_rfl) (atC (q i)) _ ((HR.out.drew.2 i (by omega)).1) hu rfl (by rw [hi, atC_len]) ?_ ?_
      · simp only [Act.put, List.setIfInBounds_toArray, List.set_cons_zero, List.set_cons_succ]
        refine wpAny_load 11 (some 25) (by kernel_rfl) rfl rfl (by kernel_rfl) 26 (.tmp 24) rfl (g) (i * 34) (by kernel_rfl) (atC (q i)) _ ((HR.out.drew.2 i (by omega)).1) hu rfl (by rw [hi, atC_len]) ?_
        simp only [Act.put, List.setIfInBounds_toArray, List.set_cons_zero, List.set_cons_succ]
        refine wpAny_at (i := 12) (v := .pointer (some ⟨g, i * 34, none⟩)) (some 26) rfl rfl (by kernel_rfl) (by kernel_rfl) (by kernel_rfl) (fun _ _ _ h => h) (by kernel_rfl) (fun _ => ex_indexAddr 28 _ _ (.slice (some ⟨g, 0, none⟩) n c) (.int .i64 i) _ rfl (by kernel_rfl) (by kernel_rfl) (HI1.out _)) ?_
        simp only [Act.put, List.setIfInBounds_toArray, List.set_cons_zero, List.set_cons_succ]
        refine wpAny_store 13 (by kernel_rfl) rfl rfl (by kernel_rfl) 26 (.tmp 26) (.tmp 21) rfl (g) (i * 34) (atC (q j)) (by kernel_rfl) (by kernel_rfl) (S1.out) (hsz1) (atC_oneA _) ?_
        simp only [Act.put, List.setIfInBounds_toArray, List.set_cons_zero, List.set_cons_succ]
        refine wpAny_at (i := 14) (v := .pointer (some ⟨g, j * 34, none⟩)) (some 27) rfl rfl (by kernel_rfl) (by kernel_rfl) (by kernel_rfl) (fun _ _ _ h => h) (by kernel_rfl) (fun _ => ex_indexAddr 28 _ _ (.slice (some ⟨g, 0, none⟩) n c) (.int .i64 j) _ rfl (by kernel_rfl) (by kernel_rfl) (HI2.out _)) ?_
        simp only [Act.put, List.setIfInBounds_toArray, List.set_cons_zero, List.set_cons_succ]
        refine wpAny_store 15 (by kernel_rfl) rfl rfl (by kernel_rfl) 26 (.tmp 27) (.tmp 25) rfl (g) (j * 34) (atC (q i)) (by kernel_rfl) (by kernel_rfl) (S2.out) (hsz2) (atC_oneA _) ?_
        simp only [Act.put, List.setIfInBounds_toArray, List.set_cons_zero, List.set_cons_succ]
        refine wpAny_done (by kernel_rfl) ?_ _
        go_wp2_with fail
        go_roundg (n - (i + 1))
        case measure => omega
        case rel => exact ⟨i + 1, by go_num, by (show Value.int .i64 _ = Value.int .i64 _); congr 1; omega, by omega, HR2.out, HB2.out, Nat.le_refl _⟩
      · simp only [Act.put, List.setIfInBounds_toArray, List.set_cons_zero, List.set_cons_succ]
        refine wpAny_load 7 (some 21) (by kernel_rfl) rfl rfl (by kernel_rfl) 26 (.tmp 20) rfl (g) (j * 34) (by kernel_rfl) (atC (q j)) _ ((HR.out.drew.2 j (by omega)).1) hu rfl (by rw [hi, atC_len]) ?_
        simp only [Act.put, List.setIfInBounds_toArray, List.set_cons_zero, List.set_cons_succ]
        refine wpAny_at (i := 12) (v := .pointer (some ⟨g, i * 34, none⟩)) (some 26) rfl rfl (by kernel_rfl) (by kernel_rfl) (by kernel_rfl) (fun _ _ _ h => h) (by kernel_rfl) (fun _ => ex_indexAddr 28 _ _ (.slice (some ⟨g, 0, none⟩) n c) (.int .i64 i) _ rfl (by kernel_rfl) (by kernel_rfl) (HI1.out _)) ?_
        simp only [Act.put, List.setIfInBounds_toArray, List.set_cons_zero, List.set_cons_succ]
        refine wpAny_store 13 (by kernel_rfl) rfl rfl (by kernel_rfl) 26 (.tmp 26) (.tmp 21) rfl (g) (i * 34) (atC (q j)) (by kernel_rfl) (by kernel_rfl) (S1.out) (hsz1) (atC_oneA _) ?_
        simp only [Act.put, List.setIfInBounds_toArray, List.set_cons_zero, List.set_cons_succ]
        refine wpAny_at (i := 14) (v := .pointer (some ⟨g, j * 34, none⟩)) (some 27) rfl rfl (by kernel_rfl) (by kernel_rfl) (by kernel_rfl) (fun _ _ _ h => h) (by kernel_rfl) (fun _ => ex_indexAddr 28 _ _ (.slice (some ⟨g, 0, none⟩) n c) (.int .i64 j) _ rfl (by kernel_rfl) (by kernel_rfl) (HI2.out _)) ?_
        simp only [Act.put, List.setIfInBounds_toArray, List.set_cons_zero, List.set_cons_succ]
        refine wpAny_store 15 (by kernel_rfl) rfl rfl (by kernel_rfl) 26 (.tmp 27) (.tmp 25) rfl (g) (j * 34) (atC (q i)) (by kernel_rfl) (by kernel_rfl) (S2.out) (hsz2) (atC_oneA _) ?_
        simp only [Act.put, List.setIfInBounds_toArray, List.set_cons_zero, List.set_cons_succ]
        refine wpAny_done (by kernel_rfl) ?_ _
        go_wp2_with fail
        go_roundg (n - (i + 1))
        case measure => omega
        case rel => exact ⟨i + 1, by go_num, by (show Value.int .i64 _ = Value.int .i64 _); congr 1; omega, by omega, HR2.out, HB2.out, Nat.le_refl _⟩
    · have hlti : ¬ (i : Int) < (n : Int) - 1 - (i : Int) := by omega
      have HE := Lib.hid (HR.out.congr (mirr_end n i L (by omega)))
      go_wp2_with fail
      go_end0
      exact ⟨rfl, HE.out, HB.out⟩

end Go.Proofs.YtpboaadjbkaidaaDoor

namespace Go.Proofs.YtpboaadjbkaidaaDoor
set_option maxRecDepth 100000
open Go.RowKit

set_option maxRecDepth 100000 in
set_option maxHeartbeats 4000000 in
theorem turn_nil (a : Option Addr) (c : Nat) (w : World) :
    Calls Tryd.prog 84 #[.slice a 0 c] w fun e w' => e = .returned (.tuple #[]) ∧ w = w' := by
  go_enter Tryd.func84, Tryd.ntmps84
  go_wp2_with fail
  go_loopg [2, 3] 0 (fun _ s2 s3 wr => s2 = .int .i64 0 ∧ s3 = .int .i64 (-1) ∧ w = wr)
  case atStart => exact ⟨rfl, rfl, rfl⟩
  case round =>
    obtain ⟨rfl, rfl, rfl⟩ := hrel
    go_wp2_with fail
    go_end0
    exact ⟨rfl, rfl⟩

set_option maxRecDepth 100000 in
set_option maxHeartbeats 4000000 in
theorem revp_any (l : List At) (v : Value) (w : World) (hp : RdE atC 34 w v l) (hl : l.length ≤ 140737488355) :
    Calls Tryd.prog 51 #[v] w (RetRd w w.heap.size l.reverse) := by
  obtain ⟨R, HRR⟩ : ∃ R, Hid (R = RetRd w w.heap.size l.reverse) := ⟨_, rfl⟩
  rw [← HRR.out]
  have HC := Lib.hid (clone_any l v w hp hl)
  clear hp
  go_enter Tryd.func51, Tryd.ntmps51
  go_upto_region 2 with (go_at_call 83; refine HC.out.mono ?_; rintro e w1 ⟨v1, rfl, hown, hb1⟩)
  have HB1 := Lib.hid hb1
  rcases hown.2 with ⟨rfl, h0⟩ | ⟨g, cap, cur, rfl, hbg, hh, hc, hcm, hs, htk⟩
  · obtain rfl : l = [] := List.eq_nil_of_length_eq_zero h0
    clear hown hb1 HC
    go_wp2_with (go_at_call 84; refine (turn_nil _ _ _).mono ?_; rintro e w' ⟨rfl, rfl⟩)
    rw [HRR.out]
    exact ⟨_, rfl, RdE.nil, HB1.out⟩
  · have hra := RowA.of hown
    have HT := Lib.hid (turn_any g g cap l.length (atAt l) w1 hra.1 (Nat.le_refl _) hl)
    have hgg := hra.2
    clear hra hown hh htk hs hcm hb1 HC
    go_wp2_with (go_at_call 84; refine HT.out.mono ?_; rintro e w2 ⟨rfl, hr2, hb2⟩)
    rw [HRR.out]
    refine ⟨_, rfl, hr2.rd l.reverse (by simp) hc (fun t x h => rev_at l t x h), HB1.out.trans (hb2.mono hgg)⟩

end Go.Proofs.YtpboaadjbkaidaaDoor

namespace Go.Proofs.YtpboaadjbkaidaaDoor
set_option maxRecDepth 100000
open Go.RowKit

/-- A slice value by its parts. -/
structure Sl where
  A : Option Addr
  n : Nat
  c : Nat
def Sl.v (x : Sl) : Value := .slice x.A x.n x.c
structure RuV where
  b : Bool
  u : Sl
  t : Sl
def ruC (x : RuV) : List Value := [.bool x.b, x.u.v, x.t.v]
theorem ruC_len (x : RuV) : (ruC x).length = 3 := rfl
theorem ruC_one (x : RuV) : ∀ v ∈ ruC x, v.oneCell' = true := by
  intro v hv
  simp [ruC, Sl.v] at hv
  rcases hv with rfl | rfl | rfl <;> rfl
structure TbV where
  nm : ByteArray
  pa : ByteArray
  r : Sl
def tbC (x : TbV) : List Value := [.string x.nm, .string x.pa, x.r.v]
theorem tbC_len (x : TbV) : (tbC x).length = 3 := rfl
theorem tbC_one (x : TbV) : ∀ v ∈ tbC x, v.oneCell' = true := by
  intro v hv
  simp [tbC, Sl.v] at hv
  rcases hv with rfl | rfl | rfl <;> rfl

/-- What holds as long as the blocks that are not in X read as they did. -/
def Keep (X : List Nat) (w : World) (φ : World → Prop) : Prop := ∀ w' : World, w.heap.size ≤ w'.heap.size → (∀ b, b < w.heap.size → b ∉ X → w'.heap[b]? = w.heap[b]?) → φ w'
theorem Keep.now {X : List Nat} {w : World} {φ : World → Prop} (h : Keep X w φ) : φ w := h w (Nat.le_refl _) (fun _ _ _ => rfl)
theorem Keep.step {X Y : List Nat} {w w' : World} {φ : World → Prop} (h : Keep X w φ) (hs : w.heap.size ≤ w'.heap.size) (hb : ∀ b, b < w.heap.size → b ∉ X → w'.heap[b]? = w.heap[b]? ∧ b ∉ Y) : Keep Y w' φ :=
  fun u hu hk => h u (Nat.le_trans hs hu) (fun b hlt hX => (hk b (Nat.lt_of_lt_of_le hlt hs) (hb b hlt hX).2).trans (hb b hlt hX).1)
theorem Keep.imp {X : List Nat} {w : World} {φ ψ : World → Prop} (h : Keep X w φ) (e : ∀ u, φ u → ψ u) : Keep X w ψ := fun u hu hk => e u (h u hu hk)
theorem Keep.and {X : List Nat} {w : World} {φ ψ : World → Prop} (h : Keep X w φ) (g : Keep X w ψ) : Keep X w fun u => φ u ∧ ψ u := fun u hu hk => ⟨h u hu hk, g u hu hk⟩

section
variable {α : Type} {e : TypeId} {f : α → List Value} {m : Nat} {w w' : World} {B : Nat} {v : Value} {l : List α}
/-- A slice whose block is not in X. -/
theorem RdE.keepX {X : List Nat} (h : RdE f m w v l) (hX : ∀ b o s n c, v = .slice (some ⟨b, o, s⟩) n c → b ∉ X) : Keep X w fun u => RdE f m u v l := fun u hu hk => by
  obtain ⟨A, c, hv, hc, hn, h⟩ := h
  refine ⟨A, c, hv, hc, hn, fun h0 => ?_⟩
  obtain ⟨b, o, rfl, hb, hx⟩ := h h0
  refine ⟨b, o, rfl, Nat.lt_of_lt_of_le hb hu, fun i x j y hi hj => ?_⟩
  rw [World.cell?_of_block (w := w) (hk b hb (hX _ _ _ _ _ hv))]
  exact hx i x j y hi hj
theorem OwnE.keepX {X : List Nat} (hm : ∀ x, (f x).length = m) (h : OwnE e f m w B v l) (hX : ∀ b ∈ X, b < B ∨ v.ownBlock ≠ some b) : Keep X w fun u => RdE f m u v l :=
  RdE.keepX (h.rd hm) fun b o s n c hv hb => by
    rcases h.2 with ⟨rfl, _⟩ | ⟨g, cap, cur, rfl, hg, _⟩
    · cases hv
    · injection hv with h1 _ _
      injection h1 with h1
      injection h1 with h1 _ _
      subst h1
      rcases hX _ hb with h2 | h2
      · omega
      · exact h2 rfl
end

/-- A slice that reads as rules. -/
def RdRu (w : World) (v : Value) (l : List Ru) : Prop := ∃ xs : List RuV, RdE ruC 3 w v xs ∧ xs.length = l.length ∧ ∀ (i : Nat) (x : RuV) (r : Ru), xs[i]? = some x → l[i]? = some r → x.b = r.br ∧ RdE atC 34 w x.u.v r.bf ∧ RdE atC 34 w x.t.v r.af
def RdTb (w : World) (v : Value) (l : List Tb) : Prop := ∃ xs : List TbV, RdE tbC 3 w v xs ∧ xs.length = l.length ∧ ∀ (i : Nat) (x : TbV) (t : Tb), xs[i]? = some x → l[i]? = some t → x.nm = t.nm ∧ x.pa = t.pa ∧ RdRu w x.r.v t.rs
theorem RdRu.below {w w' : World} {B : Nat} {v : Value} {l : List Ru} (h : RdRu w v l) (hb : Below B w w') (hB : w.heap.size ≤ B) : RdRu w' v l := by
  obtain ⟨xs, h1, h2, h3⟩ := h
  exact ⟨xs, h1.below hb hB, h2, fun i x r hx hr => ⟨(h3 i x r hx hr).1, (h3 i x r hx hr).2.1.below hb hB, (h3 i x r hx hr).2.2.below hb hB⟩⟩
theorem RdTb.below {w w' : World} {B : Nat} {v : Value} {l : List Tb} (h : RdTb w v l) (hb : Below B w w') (hB : w.heap.size ≤ B) : RdTb w' v l := by
  obtain ⟨xs, h1, h2, h3⟩ := h
  exact ⟨xs, h1.below hb hB, h2, fun i x r hx hr => ⟨(h3 i x r hx hr).1, (h3 i x r hx hr).2.1, (h3 i x r hx hr).2.2.below hb hB⟩⟩
theorem RdRu.shape {w : World} {v : Value} {l : List Ru} (h : RdRu w v l) : ∃ A c, v = .slice A l.length c := by
  obtain ⟨xs, h1, h2, _⟩ := h
  obtain ⟨A, c, hv, _⟩ := h1.shape
  exact ⟨A, c, by rw [← h2]; exact hv⟩
theorem RdTb.shape {w : World} {v : Value} {l : List Tb} (h : RdTb w v l) : ∃ A c, v = .slice A l.length c := by
  obtain ⟨xs, h1, h2, _⟩ := h
  obtain ⟨A, c, hv, _⟩ := h1.shape
  exact ⟨A, c, by rw [← h2]; exact hv⟩
theorem RdRu.nil {w : World} : RdRu w (.slice none 0 0) [] := ⟨[], RdE.nil, rfl, fun _ _ _ h => by simp at h⟩
theorem RdTb.nil {w : World} : RdTb w (.slice none 0 0) [] := ⟨[], RdE.nil, rfl, fun _ _ _ h => by simp at h⟩

end Go.Proofs.YtpboaadjbkaidaaDoor

namespace Go.Proofs.YtpboaadjbkaidaaDoor
set_option maxRecDepth 100000
open Go.RowKit

/-- A token or an item. -/
structure Tk where
  k : Int
  t : ByteArray
  d : Int

theorem Tk.ext' {a b : Tk} (h1 : a.k = b.k) (h2 : a.t = b.t) (h3 : a.d = b.d) : a = b := by
  cases a; cases b; simp at h1 h2 h3; rw [h1, h2, h3]
theorem bytes_ext {a b : ByteArray} (h : a.data.toList = b.data.toList) : a = b := by
  obtain ⟨⟨l⟩⟩ := a
  obtain ⟨⟨m⟩⟩ := b
  simp at h
  rw [h]

def wordB (c : UInt8) : Bool := clsN (c.toNat : Int) == 4 || clsN (c.toNat : Int) == 3
def digB (c : UInt8) : Bool := clsN (c.toNat : Int) == 3
def spB (c : UInt8) : Bool := clsN (c.toNat : Int) == 2

/-- How many bytes at the head are inner ones, with single joints between two of them. -/
def jn (inner : UInt8 → Bool) (a b : UInt8) : List UInt8 → Nat
  | [] => 0
  | c :: r => if inner c then jn inner a b r + 1 else if c == a || c == b then (match r with
    | d :: r' => if inner d then jn inner a b r' + 2 else 0
    | [] => 0) else 0

theorem jn_nil (inner : UInt8 → Bool) (a b : UInt8) : jn inner a b [] = 0 := rfl
theorem jn_in (inner : UInt8 → Bool) (a b c : UInt8) (r : List UInt8) (h : inner c = true) : jn inner a b (c :: r) = jn inner a b r + 1 := by
  cases r <;> simp [jn, h]
theorem jn_out (inner : UInt8 → Bool) (a b c : UInt8) (r : List UInt8) (h : inner c = false) (h2 : (c == a || c == b) = false) : jn inner a b (c :: r) = 0 := by
  have h2' : ¬ ((c == a || c == b) = true) := by rw [h2]; exact Bool.false_ne_true
  cases r <;> simp only [jn, h, Bool.false_eq_true, if_false, if_neg h2']
theorem jn_two (inner : UInt8 → Bool) (a b c d : UInt8) (r : List UInt8) (h : inner c = false) (h2 : (c == a || c == b) = true) (h3 : inner d = true) : jn inner a b (c :: d :: r) = jn inner a b r + 2 := by
  rw [jn, if_neg (by rw [h]; exact Bool.false_ne_true), if_pos h2]
  simp [h3]
theorem jn_half (inner : UInt8 → Bool) (a b c d : UInt8) (r : List UInt8) (h : inner c = false) (h2 : (c == a || c == b) = true) (h3 : inner d = false) : jn inner a b (c :: d :: r) = 0 := by
  rw [jn, if_neg (by rw [h]; exact Bool.false_ne_true), if_pos h2]
  simp [h3]
theorem jn_end (inner : UInt8 → Bool) (a b c : UInt8) (h : inner c = false) : jn inner a b [c] = 0 := by
  rw [jn, if_neg (by rw [h]; exact Bool.false_ne_true)]
  split <;> rfl
theorem jn_le (inner : UInt8 → Bool) (a b : UInt8) : ∀ n (l : List UInt8), l.length ≤ n → jn inner a b l ≤ l.length
  | 0, l, h => by
    have : l = [] := List.eq_nil_of_length_eq_zero (by omega)
    subst this
    simp [jn]
  | n + 1, l, h => by
    match l with
    | [] => simp [jn]
    | [c] =>
      by_cases hc : inner c = true
      · rw [jn_in _ _ _ _ _ hc, jn_nil]; simp
      · rw [jn_end _ _ _ _ (by simpa using hc)]; simp
    | c :: d :: r =>
      have h1 := jn_le inner a b n (d :: r) (by simp at h ⊢; omega)
      have h2 := jn_le inner a b n r (by simp at h ⊢; omega)
      simp at h1 ⊢
      by_cases hc : inner c = true
      · rw [jn_in _ _ _ _ _ hc]; omega
      · by_cases hj : (c == a || c == b) = true
        · by_cases hd : inner d = true
          · rw [jn_two _ _ _ _ _ _ (by simpa using hc) hj hd]; omega
          · rw [jn_half _ _ _ _ _ _ (by simpa using hc) hj (by simpa using hd)]; omega
        · rw [jn_out _ _ _ _ _ (by simpa using hc) (by simpa using hj)]; omega

/-- Kind and length of the token at the head. -/
def nextL : List UInt8 → Int × Nat
  | [] => (9, 1)
  | c :: r => if clsN (c.toNat : Int) = 4 then (6, 1 + jn wordB 39 45 r) else if clsN (c.toNat : Int) = 3 then (7, 1 + jn digB 46 44 r)
    else if clsN (c.toNat : Int) = 2 then (8, 1 + (r.takeWhile spB).length) else (9, 1)

theorem nextL_pos (l : List UInt8) : 1 ≤ (nextL l).2 := by
  match l with
  | [] => simp [nextL]
  | c :: r => unfold nextL; repeat' split
              all_goals simp
theorem takeWhile_le (p : UInt8 → Bool) (l : List UInt8) : (l.takeWhile p).length ≤ l.length := (List.takeWhile_prefix p).length_le
theorem nextL_le (l : List UInt8) (h : l ≠ []) : (nextL l).2 ≤ l.length := by
  match l, h with
  | c :: r, _ =>
    have h1 := jn_le wordB 39 45 r.length r (Nat.le_refl _)
    have h2 := jn_le digB 46 44 r.length r (Nat.le_refl _)
    have h3 := takeWhile_le spB r
    simp only [nextL, List.length_cons]
    by_cases a1 : clsN (c.toNat : Int) = 4
    · rw [if_pos a1]; show 1 + _ ≤ _; omega
    · rw [if_neg a1]
      by_cases a2 : clsN (c.toNat : Int) = 3
      · rw [if_pos a2]; show 1 + _ ≤ _; omega
      · rw [if_neg a2]
        by_cases a3 : clsN (c.toNat : Int) = 2
        · rw [if_pos a3]; show 1 + _ ≤ _; omega
        · rw [if_neg a3]; show 1 ≤ _; omega

/-- The tokens of a text: kinds and bytes. -/
def cutF : Nat → List UInt8 → List (Int × List UInt8)
  | 0, _ => []
  | _ + 1, [] => []
  | n + 1, c :: r => ((nextL (c :: r)).1, (c :: r).take (nextL (c :: r)).2) :: cutF n ((c :: r).drop (nextL (c :: r)).2)
def cutL (l : List UInt8) : List (Int × List UInt8) := cutF l.length l

theorem cutF_eq (n m : Nat) (l : List UInt8) (hn : l.length ≤ n) (hm : l.length ≤ m) : cutF n l = cutF m l := by
  induction n generalizing m l with
  | zero =>
    have : l = [] := List.eq_nil_of_length_eq_zero (by omega)
    subst this
    cases m <;> rfl
  | succ n ih =>
    match l, m, hm with
    | [], 0, _ => rfl
    | [], _ + 1, _ => rfl
    | c :: r, m + 1, hm =>
      have hp := nextL_pos (c :: r)
      rw [cutF, cutF, ih m]
      · rw [List.length_drop]; simp at hn ⊢; omega
      · rw [List.length_drop]; simp at hm ⊢; omega
theorem cutL_nil : cutL [] = [] := rfl
theorem cutL_cons (l : List UInt8) (h : l ≠ []) : cutL l = ((nextL l).1, l.take (nextL l).2) :: cutL (l.drop (nextL l).2) := by
  match l, h with
  | c :: r, _ =>
    have hp := nextL_pos (c :: r)
    unfold cutL
    rw [List.length_cons, cutF]
    congr 1
    refine cutF_eq _ _ _ ?_ (Nat.le_refl _)
    rw [List.length_drop, List.length_cons]
    omega
theorem cutL_length (n : Nat) : ∀ l : List UInt8, l.length ≤ n → (cutL l).length ≤ l.length := by
  induction n with
  | zero =>
    intro l h
    have : l = [] := List.eq_nil_of_length_eq_zero (by omega)
    subst this
    simp [cutL_nil]
  | succ n ih =>
    intro l h
    by_cases hl : l = []
    · subst hl; simp [cutL_nil]
    · have hp := nextL_pos l
      have hle := nextL_le l hl
      rw [cutL_cons l hl, List.length_cons]
      have := ih (l.drop (nextL l).2) (by rw [List.length_drop]; omega)
      rw [List.length_drop] at this
      omega

def tkOf (x : Int × List UInt8) : Tk := ⟨x.1, ⟨x.2.toArray⟩, 0⟩

/-- The tokens of an item. -/
def tok1 (x : Tk) : List Tk := if x.k = 1 then (cutL x.t.data.toList).map tkOf else if 2 ≤ x.k ∧ x.k ≤ 5 then [x] else []
def tokensL (f : List Tk) : List Tk := f.flatMap tok1

def bytesOf (f : List Tk) : Nat := (f.map fun x => x.t.size).sum
theorem bytesOf_cons (x : Tk) (f : List Tk) : bytesOf (x :: f) = x.t.size + bytesOf f := by simp [bytesOf]
theorem tok1_length (x : Tk) : (tok1 x).length ≤ x.t.size + 1 := by
  unfold tok1
  split
  · have := cutL_length _ x.t.data.toList (Nat.le_refl _)
    rw [List.length_map, Lib.size_eq]
    omega
  · split <;> simp
theorem tokensL_length (f : List Tk) : (tokensL f).length ≤ bytesOf f + f.length := by
  induction f with
  | nil => simp [tokensL]
  | cons x f ih =>
    have h1 := tok1_length x
    have h2 : tokensL (x :: f) = tok1 x ++ tokensL f := rfl
    rw [h2, List.length_append, bytesOf_cons, List.length_cons]
    omega
theorem tokensL_append (f g : List Tk) : tokensL (f ++ g) = tokensL f ++ tokensL g := by simp [tokensL]
theorem tokensL_take (f : List Tk) (k : Nat) (h : k < f.length) : tokensL (f.take (k + 1)) = tokensL (f.take k) ++ tok1 f[k] := by
  rw [List.take_succ_eq_append_getElem h, tokensL_append]
  simp [tokensL]
theorem bytesOf_take (f : List Tk) (k : Nat) : bytesOf (f.take k) ≤ bytesOf f := by
  induction f generalizing k with
  | nil => simp [bytesOf]
  | cons x f ih =>
    cases k with
    | zero => simp [bytesOf]
    | succ k => rw [List.take_succ_cons, bytesOf_cons, bytesOf_cons]; have := ih k; omega
theorem bytesOf_get (f : List Tk) (k : Nat) (h : k < f.length) : bytesOf (f.take k) + f[k].t.size ≤ bytesOf f := by
  have h1 := bytesOf_take f (k + 1)
  rw [List.take_succ_eq_append_getElem h] at h1
  have h2 : bytesOf (f.take k ++ [f[k]]) = bytesOf (f.take k) + f[k].t.size := by
    unfold bytesOf
    rw [List.map_append, List.sum_append]
    simp only [List.map_cons, List.map_nil, List.sum_cons, List.sum_nil, Nat.add_zero]
  omega

end Go.Proofs.YtpboaadjbkaidaaDoor

namespace Go.Proofs.YtpboaadjbkaidaaDoor
set_option maxRecDepth 100000
open Go.RowKit

/-- A token as cells. -/
def tkC (x : Tk) : List Value := [.int .i64 x.k, .string x.t, .int .i64 x.d]
theorem tkC_three (x : Tk) : (tkC x).length = 3 := rfl
theorem tkC_one (x : Tk) : ∀ u ∈ tkC x, u.oneCell' = true := by
  intro u hu
  simp [tkC] at hu
  rcases hu with rfl | rfl | rfl <;> rfl
theorem item_info : (Tryd.prog.info? 84).map (fun i => (i.zero, i.size, i.bytes)) = some (some (.agg #[.int .i64 0, .string ⟨#[]⟩, .int .i64 0]), 3, 32) := by kernel_rfl

/-- A slice value that reads as a list of tokens (or items). -/
abbrev RdT (w : World) (v : Value) (l : List Tk) : Prop := RdE tkC 3 w v l
/-- A row of tokens (e: their type) of the call's own. -/
abbrev OwnT (e : TypeId) (w : World) (B : Nat) (v : Value) (l : List Tk) : Prop := OwnE e tkC 3 w B v l

/-- What a round of a loop over such a slice wants. -/
theorem RdT.at_ {w : World} {A : Option Addr} {n c : Nat} {l : List Tk} (h : RdT w (.slice A n c) l) (k : Nat) (hk : k < l.length) :
    ∃ b o, A = some ⟨b, o, none⟩ ∧ b < w.heap.size ∧ w.cell? ⟨b, o + k * 3, none⟩ = some (.int .i64 l[k].k) ∧ w.cell? ⟨b, o + k * 3 + 1, none⟩ = some (.string l[k].t) ∧ w.cell? ⟨b, o + k * 3 + 2, none⟩ = some (.int .i64 l[k].d) := by
  obtain ⟨b, o, hA, hb, hx⟩ := RdE.cells h (by omega)
  have hi : l[k]? = some l[k] := List.getElem?_eq_getElem hk
  exact ⟨b, o, hA, hb, hx k _ 0 _ hi rfl, hx k _ 1 _ hi rfl, hx k _ 2 _ hi rfl⟩

/-- The bytes of a string in a slot. -/
def strLen : Value → Nat | .string s => s.size | _ => 0

end Go.Proofs.YtpboaadjbkaidaaDoor

namespace Go.Proofs.YtpboaadjbkaidaaDoor
set_option maxRecDepth 100000
open Go.ChangeShapes Go.WideShapes Go.ChangeAt Go.RowKit

end Go.Proofs.YtpboaadjbkaidaaDoor

namespace Go.Proofs.YtpboaadjbkaidaaDoor
set_option maxRecDepth 100000
open Go.ChangeShapes Go.WideShapes Go.ChangeAt Go.RowKit Go.Deep Go.Joins

/-- What an argument's token keeps to. -/
def TkIn (x : Tk) : Prop := x.t.size ≤ maxLen ∧ (-9223372036854775808 ≤ x.k ∧ x.k ≤ 9223372036854775807) ∧ (-9223372036854775808 ≤ x.d ∧ x.d ≤ 9223372036854775807)

theorem wf_i64 {n : Int} (h : (Lit.int .i64 n).wf = true) : -9223372036854775808 ≤ n ∧ n ≤ 9223372036854775807 := by
  simp only [Lit.wf, Bool.and_eq_true, decide_eq_true_eq] at h
  exact h

section
variable {H : Type} {enc : TypeId × Value → H} {P : Program} {w : World} {base : Nat} {spare : Nat → Bool} {held : Bool}

theorem open_rows {α : Type} (f : α → List Value) (m : Nat) (good : α → Prop) {r : Reach} {b0 : Nat} {t e : TypeId} {v : Value} {d : DataW H} {p : List MemPlace} (ht : P.underlying t = some (.slice e)) (hC : P.cellsOf e = m) (hm : ∀ x, (f x).length = m) (hm0 : 0 < m)
    (hel : ∀ n cs x, DataW.trod enc P w base spare held n e cs = some x → ∃ y : α, cs = f y ∧ good y) (hv : Value.okWide P w r b0 t v) (h : DataW.Trod enc P w base spare held t v d p) :
    ∃ (A : Option Addr) (n c : Nat) (l : List α), v = .slice A n c ∧ n = l.length ∧ l.length ≤ maxLen ∧ RdE f m w (.slice A n c) l ∧ ∀ x ∈ l, good x := by
  obtain ⟨A, n, c, rfl⟩ := okWide_slice ht hv
  obtain ⟨fuel, hf⟩ := h
  rcases open_slice ht hf with ⟨h0, _⟩ | ⟨a, len, cap, k, n', D, Pl, hcs, _, hl, hmx, hk, _, hi⟩
  · simp [Value.cells] at h0
    obtain ⟨rfl, rfl, rfl⟩ := h0
    exact ⟨none, 0, 0, [], rfl, rfl, by simp, RdE.nil, by simp⟩
  · simp [Value.cells] at hcs
    obtain ⟨rfl, rfl, rfl⟩ := hcs
    have hlk : n ≤ k := by rw [hk]; split <;> omega
    have hall : ∀ i : Fin n, ∃ y : α, good y ∧ ∀ (j : Nat) (u : Value), (f y)[j]? = some u → w.cell? (a.add (i.val * m + j)) = some u := by
      intro i
      obtain ⟨cs', hc, htr⟩ := hi i.val (by omega)
      obtain ⟨y, rfl, hy⟩ := hel _ _ _ htr
      refine ⟨y, hy, fun j u hju => ?_⟩
      obtain ⟨_, hcl, hat⟩ := World.cells?_some hc
      have hjm : j < m := by rw [← hm y]; exact (List.getElem?_eq_some_iff.1 hju).1
      have := hat j (by rw [hC]; exact hjm)
      rw [hju, hC, Go.Deep.add_add] at this
      exact this
    refine ⟨some a, n, c, List.ofFn fun i => Classical.choose (hall i), rfl, by simp, by simp; omega, ?_, ?_⟩
    · refine ⟨some a, c, by simp, by simp; omega, (fun h => by cases h), fun h0 => ?_⟩
      have hn0 : 0 < n := by simpa using h0
      have hc0 := Classical.choose_spec (hall ⟨0, hn0⟩)
      have h00 : (f (Classical.choose (hall ⟨0, hn0⟩)))[0]? = some _ := List.getElem?_eq_getElem (by rw [hm]; omega)
      have hcell0 := hc0.2 0 _ h00
      obtain ⟨b, o, sp⟩ := a
      have hsp : sp = none := by simpa [Addr.add] using World.cell?_spot hcell0
      subst hsp
      have hbl : b < w.heap.size := by
        unfold World.cell? at hcell0
        split at hcell0
        · rename_i hh
          have := (Array.getElem?_eq_some_iff.1 hh).1
          rw [Addr.add_lit] at this
          exact this
        · cases hcell0
      refine ⟨b, o, rfl, hbl, fun i x j u hx hu => ?_⟩
      rw [List.getElem?_ofFn] at hx
      split at hx
      · rename_i hin
        injection hx with hx
        subst hx
        have := (Classical.choose_spec (hall ⟨i, hin⟩)).2 j u hu
        rw [Addr.add_lit] at this
        exact this
      · cases hx
    · intro x hx
      obtain ⟨i, rfl⟩ := List.mem_ofFn.1 hx
      exact (Classical.choose_spec (hall i)).1

/-- The struct of a token (an item) as its cells. -/
theorem trod_tok {t : TypeId} {f0 f1 f2 : Field} {n : Nat} {cs : List Value} {x : DataW H × List MemPlace} (hs : P.underlying t = some (.struct #[f0, f1, f2])) (hone : oneCellFields P #[f0, f1, f2] = true) (hC : P.cellsOf t = 3)
    (h0 : P.underlying f0.type = some (.int .i64)) (h1 : P.underlying f1.type = some .string) (h2 : P.underlying f2.type = some (.int .i64)) (h : DataW.trod enc P w base spare held n t cs = some x) : ∃ y : Tk, cs = tkC y ∧ TkIn y := by
  obtain ⟨xs, m, _, _, hcl, hxl, hf⟩ := DataW.trod_struct hs h
  rw [hC] at hcl
  obtain ⟨c0, c1, c2, rfl⟩ : ∃ c0 c1 c2, cs = [c0, c1, c2] := by
    match cs, hcl with
    | [a, b, c], _ => exact ⟨a, b, c, rfl⟩
  obtain ⟨x0, x1, x2, rfl⟩ : ∃ x0 x1 x2, xs = [x0, x1, x2] := by
    match xs, hxl with
    | [a, b, c], _ => exact ⟨a, b, c, rfl⟩
  obtain ⟨o0, k0⟩ := hone_of hone 0 f0 rfl
  obtain ⟨o1, k1⟩ := hone_of hone 1 f1 rfl
  obtain ⟨o2, k2⟩ := hone_of hone 2 f2 rfl
  have g0 := hf 0 f0 rfl
  have g1 := hf 1 f1 rfl
  have g2 := hf 2 f2 rfl
  rw [o0, k0] at g0
  rw [o1, k1] at g1
  rw [o2, k2] at g2
  obtain ⟨a0, e0, _, w0⟩ := DataW.trod_int h0 g0
  obtain ⟨a1, e1, _, w1⟩ := DataW.trod_string h1 g1
  obtain ⟨a2, e2, _, w2⟩ := DataW.trod_int h2 g2
  simp at e0 e1 e2
  subst e0 e1 e2
  exact ⟨⟨a0, a1, a2⟩, rfl, w1, wf_i64 w0, wf_i64 w2⟩
end

section
variable {H : Type} {enc : TypeId × Value → H} {w : World} {base : Nat} {spare : Nat → Bool} {held : Bool}
theorem trod_item {n : Nat} {cs : List Value} {x : DataW H × List MemPlace} (h : DataW.trod enc Tryd.prog w base spare held n 84 cs = some x) : ∃ y : Tk, cs = tkC y ∧ TkIn y :=
  trod_tok Tryd.underlying84 (by kernel_rfl) (by kernel_rfl) Tryd.underlying3 Tryd.underlying9 Tryd.underlying3 h
theorem open_items {r : Reach} {b0 : Nat} {v : Value} {d : DataW H} {p : List MemPlace} (hv : Value.okWide Tryd.prog w r b0 57 v) (h : DataW.Trod enc Tryd.prog w base spare held 57 v d p) :
    ∃ (A : Option Addr) (n c : Nat) (l : List Tk), v = .slice A n c ∧ n = l.length ∧ l.length ≤ maxLen ∧ RdT w (.slice A n c) l ∧ ∀ x ∈ l, TkIn x :=
  open_rows tkC 3 TkIn Tryd.underlying57 (by kernel_rfl) tkC_three (by decide) (fun _ _ _ h => trod_item h) hv h
/-- An int in a slice. -/
def intC (x : Int) : List Value := [.int .i64 x]
theorem intC_one (x : Int) : (intC x).length = 1 := rfl
def IntIn (x : Int) : Prop := -9223372036854775808 ≤ x ∧ x ≤ 9223372036854775807
theorem open_intl {r : Reach} {b0 : Nat} {v : Value} {d : DataW H} {p : List MemPlace} (hv : Value.okWide Tryd.prog w r b0 32 v) (h : DataW.Trod enc Tryd.prog w base spare held 32 v d p) :
    ∃ (A : Option Addr) (n c : Nat) (l : List Int), v = .slice A n c ∧ n = l.length ∧ l.length ≤ maxLen ∧ RdE intC 1 w (.slice A n c) l ∧ ∀ x ∈ l, IntIn x :=
  open_rows intC 1 IntIn Tryd.underlying32 (by kernel_rfl) intC_one (by decide) (fun n cs x h => by
    obtain ⟨a, e, _, wf⟩ := DataW.trod_int Tryd.underlying3 h
    exact ⟨a, e, wf_i64 wf⟩) hv h
end

end Go.Proofs.YtpboaadjbkaidaaDoor
