/-
  Contracts and plain laws that this claim leans on, part 2.
-/
import Derived.Test.YtfkojnofbpdjdaaGreatDoorPackC1
import Derived.Lib.SliceRun
import Derived.Deep.LoopGhost
set_option linter.unusedVariables false
set_option linter.unusedSimpArgs false
set_option maxHeartbeats 16000000
set_option maxRecDepth 100000
namespace Go.Proofs.YtfkojnofbpdjdaaGreatDoor
set_option maxRecDepth 100000
open Go.RowKit
theorem at_range {w : World} {q : Nat} {x : At} (h : AtIn w q x) : w.drew.rangeAt q 0 (atC x) := fun j v hj => by
 rw [Nat.zero_add]
 show w.cell? _ = _
 rw [cell_of_row _ _ _ _ _ _ h]
 simpa using hj
theorem ends_any (l : List At) (s : ByteArray) (lv : Value) (w : World) (hp : RdE atC 34 w lv l) (hs : s.size ≤ 1048576) (hl : l.length ≤ 140737488355328) :
 Calls Tryz.prog 102 #[lv, .string s] w (RetPl w (s.size + 1) (reachF s l allF)) := by
 obtain ⟨A, c, rfl, hlc, _⟩ := hp.shape
 have HP := Lib.hid hp
 clear hp
 have hu := Tryz.underlying107
 have hi : (Tryz.prog.info? 107).map (·.size) = some 34 := atom_size
 have hmk := fun w => run_make_row' (P := Tryz.prog) 134 4 (.bool false) 1 Tryz.underlying134 bool_info rfl .i64 .i64 (s.size + 1) (by omega) (by omega) w
 rw [show ((s.size + 1 : Nat) : Int) = (s.size : Int) + 1 by omega] at hmk
 obtain ⟨R, HRR⟩ : ∃ R, Hid (R = reachF s l allF) := ⟨_, rfl⟩
 rw [← HRR.out]
 go_enter Tryz.func102, Tryz.ntmps102
 have HR0 : Hid ((w.alloc (.cells (madeCells #[.bool false] (s.size + 1)) 4)).rowIs w.heap.size 4 (s.size + 1) (fun j => .bool (decide (j < 0)))) := (World.rowIs_made w (.bool false) (s.size + 1) 4).congr fun j _ => by rw [decide_eq_false (by omega)]
 have HB0 := Lib.hid ((Below.refl w.heap.size w).alloc (Nat.le_refl _) (.cells (madeCells #[.bool false] (s.size + 1)) 4))
 go_upto_region 2 with fail
 generalize w.alloc (.cells (madeCells #[.bool false] (s.size + 1)) 4) = w1 at HR0 HB0 ⊢
 go_wp2_with fail
 go_loopg [17] (s.size + 1) (fun gk kv wr => ∃ k : Nat, k ≤ s.size + 1 ∧ kv = .int .i64 k ∧ Hid (wr.rowIs w.heap.size 4 (s.size + 1) (fun j => .bool (decide (j < k)))) ∧ Hid (Below w.heap.size w wr) ∧ s.size + 1 - k ≤ gk)
 case atStart => exact ⟨0, by omega, rfl, HR0.out, HB0.out, by omega⟩
 case round =>
  clear HR0 HB0
  obtain ⟨k, hk, rfl, HR, HB, hgk⟩ := hrel
  by_cases hkl : k < s.size + 1
  ·have hki : (k : Int) < (s.size : Int) + 1 := by omega
   have r0 := HR.out.cell (i := k) hkl
   have rf := HR.out.frozen k
   have HR1 : Hid ((wr.setCell ⟨w.heap.size, k, none⟩ (.bool true)).rowIs w.heap.size 4 (s.size + 1) (fun j => .bool (decide (j < k + 1)))) := (HR.out.set k (.bool true)).congr fun j _ => by
    by_cases h : j = k
    ·rw [if_pos h, decide_eq_true (by omega)]
    ·rw [if_neg h]
     congr 1
     rw [decide_eq_decide]
     omega
   go_wp2_with fail
   go_roundg (s.size + 1 - (k + 1))
   case measure => omega
   case rel => exact ⟨k + 1, by omega, by go_num, HR1.out, HB.out.setCell (p := ⟨w.heap.size, k, none⟩) (Nat.le_refl _) _, Nat.le_refl _⟩
  obtain rfl : k = s.size + 1 := by omega
  have hki : ¬ (((s.size + 1 : Nat)) : Int) < (s.size : Int) + 1 := by omega
  have HRA : Hid (wr.rowIs w.heap.size 4 (s.size + 1) (fun j => .bool (allF j))) := HR.out.congr fun j hj => by rw [decide_eq_true hj]; rfl
  clear HR
  go_wp2_with fail
  obtain ⟨wo, HWO⟩ : ∃ wo, Hid (wo = wr) := ⟨wr, rfl⟩
  go_loopg [5, 26] l.length (fun gk pv kv wr => ∃ (k b : Nat) (g : Nat → Bool), pv = .slice (some ⟨b, 0, none⟩) (s.size + 1) (s.size + 1) ∧ kv = .int .i64 k ∧ k ≤ l.length ∧ w.heap.size ≤ b ∧ Hid (wr.rowIs b 4 (s.size + 1) (fun j => .bool (g j))) ∧ Hid (reachF s (l.drop k) g = R) ∧ Hid (Below w.heap.size w wr) ∧ l.length - k ≤ gk)
  case atStart => exact ⟨0, w.heap.size, allF, rfl, rfl, by omega, by omega, HRA.out, by (show _ = _); rw [HRR.out]; rfl, HB.out, by omega⟩
  case round =>
   clear HRA HB HWO
   obtain ⟨k, b, g, rfl, rfl, hk2, hbw, HG, HX, HB, hgk2⟩ := hrel
   by_cases hkl : k < l.length
   ·have hki2 : (k : Int) < (l.length : Int) := by omega
    have hk0 : (0 : Int) ≤ (k : Int) := by omega
    obtain ⟨bp, o, rfl, hbl, hcell⟩ := HP.out.cells (by omega)
    have hx : l[k]? = some l[k] := List.getElem?_eq_getElem hkl
    have HX2 : Hid (reachF s (l.drop (k + 1)) (advF l[k] s g) = R) := by
     have h := HX.out
     rw [List.drop_eq_getElem_cons hkl] at h
     exact h
    have hrg : wr.rangeAt bp (o + k * 34) (atC l[k]) := fun j v hj => by
     rw [Nat.add_assoc]
     exact (HB.out.cell (p := ⟨bp, o + (k * 34 + j), none⟩) hbl).trans (hcell k _ j v hx hj)
    clear HX hx hcell
    generalize l[k] = x at HX2 hrg
    have hz := HB.out.size
    have HA1 := Lib.hid ((at_zero wr).row x)
    have HB1 : Hid (Below w.heap.size w ((wr.alloc (.cells #[.int .u8 0, .int .u8 0, .int .u8 0, .int .u8 0, .int .u8 0, .int .u8 0, .int .u8 0, .int .u8 0, .int .u8 0, .int .u8 0, .int .u8 0, .int .u8 0, .int .u8 0, .int .u8 0, .int .u8 0, .int .u8 0, .int .u8 0, .int .u8 0, .int .u8 0, .int .u8 0, .int .u8 0, .int .u8 0, .int .u8 0, .int .u8 0, .int .u8 0, .int .u8 0, .int .u8 0, .int .u8 0, .int .u8 0, .int .u8 0, .int .u8 0, .int .u8 0, .int .i64 0, .bool false] 107)).setRow wr.heap.size (atC x).toArray)) := below_setRow (HB.out.alloc hz _) hz _
    have HK1 : Hid (Below wr.heap.size wr ((wr.alloc (.cells #[.int .u8 0, .int .u8 0, .int .u8 0, .int .u8 0, .int .u8 0, .int .u8 0, .int .u8 0, .int .u8 0, .int .u8 0, .int .u8 0, .int .u8 0, .int .u8 0, .int .u8 0, .int .u8 0, .int .u8 0, .int .u8 0, .int .u8 0, .int .u8 0, .int .u8 0, .int .u8 0, .int .u8 0, .int .u8 0, .int .u8 0, .int .u8 0, .int .u8 0, .int .u8 0, .int .u8 0, .int .u8 0, .int .u8 0, .int .u8 0, .int .u8 0, .int .u8 0, .int .i64 0, .bool false] 107)).setRow wr.heap.size (atC x).toArray)) := below_setRow ((Below.refl _ wr).alloc (Nat.le_refl _) _) (Nat.le_refl _) _
    go_upto_region 10 with (first
     | (refine wpList_load_mid rfl 107 (.tmp 28) rfl bp (o + k * 34) rfl (atC x) _ hrg hu rfl (by rw [hi, atC_len]) ?_)
     | (refine wpList_store_row rfl 107 (.tmp 8) (.tmp 29) rfl (wr.heap.size) (atC x).toArray rfl rfl 107 (atC ⟨noP, 0, false⟩).toArray (at_zero wr) (by rw [atom_size, atC_size]) (by simp only [atC_size]) (atC_oneA _) ?_))
    have HG1 := Lib.hid (HG.out.of_block (w' := (wr.alloc (.cells #[.int .u8 0, .int .u8 0, .int .u8 0, .int .u8 0, .int .u8 0, .int .u8 0, .int .u8 0, .int .u8 0, .int .u8 0, .int .u8 0, .int .u8 0, .int .u8 0, .int .u8 0, .int .u8 0, .int .u8 0, .int .u8 0, .int .u8 0, .int .u8 0, .int .u8 0, .int .u8 0, .int .u8 0, .int .u8 0, .int .u8 0, .int .u8 0, .int .u8 0, .int .u8 0, .int .u8 0, .int .u8 0, .int .u8 0, .int .u8 0, .int .u8 0, .int .u8 0, .int .i64 0, .bool false] 107)).setRow wr.heap.size (atC x).toArray) (HK1.out.block _ HG.out.lt))
    have hbq : b < wr.heap.size := HG.out.lt
    have hz1 := HK1.out.size
    have hqz : wr.heap.size < ((wr.alloc (.cells #[.int .u8 0, .int .u8 0, .int .u8 0, .int .u8 0, .int .u8 0, .int .u8 0, .int .u8 0, .int .u8 0, .int .u8 0, .int .u8 0, .int .u8 0, .int .u8 0, .int .u8 0, .int .u8 0, .int .u8 0, .int .u8 0, .int .u8 0, .int .u8 0, .int .u8 0, .int .u8 0, .int .u8 0, .int .u8 0, .int .u8 0, .int .u8 0, .int .u8 0, .int .u8 0, .int .u8 0, .int .u8 0, .int .u8 0, .int .u8 0, .int .u8 0, .int .u8 0, .int .i64 0, .bool false] 107)).setRow wr.heap.size (atC x).toArray).heap.size := (Array.getElem?_eq_some_iff.1 HA1.out).1
    clear HB hrg HG HK1
    generalize wr.heap.size = q at HA1 HB1 HG1 hz hbq hz1 hqz ⊢
    generalize (wr.alloc (.cells #[.int .u8 0, .int .u8 0, .int .u8 0, .int .u8 0, .int .u8 0, .int .u8 0, .int .u8 0, .int .u8 0, .int .u8 0, .int .u8 0, .int .u8 0, .int .u8 0, .int .u8 0, .int .u8 0, .int .u8 0, .int .u8 0, .int .u8 0, .int .u8 0, .int .u8 0, .int .u8 0, .int .u8 0, .int .u8 0, .int .u8 0, .int .u8 0, .int .u8 0, .int .u8 0, .int .u8 0, .int .u8 0, .int .u8 0, .int .u8 0, .int .u8 0, .int .u8 0, .int .i64 0, .bool false] 107)).setRow q (atC x).toArray = w2 at HA1 HB1 HG1 hz1 hqz ⊢
    have HR1 : Hid ((w2.alloc (.cells (madeCells #[.bool false] (s.size + 1)) 4)).rowIs w2.heap.size 4 (s.size + 1) (fun j => .bool (if j < 0 then advF x s g j else false))) := (World.rowIs_made w2 (.bool false) (s.size + 1) 4).congr fun j _ => by rw [if_neg (Nat.not_lt_zero j)]
    have HB2 := Lib.hid (HB1.out.alloc (by omega) (.cells (madeCells #[.bool false] (s.size + 1)) 4))
    have HA2 : Hid (AtIn (w2.alloc (.cells (madeCells #[.bool false] (s.size + 1)) 4)) q x) := HA1.out.keep (Below.heap_alloc w2 _ q hqz)
    have HG2 := Lib.hid (HG1.out.of_block (w' := w2.alloc (.cells (madeCells #[.bool false] (s.size + 1)) 4)) (Below.heap_alloc w2 _ b (by omega)))
    go_upto_region 11 with fail
    clear HB1 HA1 HG1 hz1
    generalize w2.heap.size = N at HR1 hqz ⊢
    generalize w2.alloc (.cells (madeCells #[.bool false] (s.size + 1)) 4) = w3 at HR1 HB2 HA2 HG2 ⊢
    go_wp2_with fail
    obtain ⟨wo2, HWO2⟩ : ∃ wo, Hid (wo = w3) := ⟨w3, rfl⟩
    go_loopg [36] (s.size + 1) (fun gk kv wr => ∃ i : Nat, i ≤ s.size + 1 ∧ kv = .int .i64 i ∧ Hid (wr.rowIs N 4 (s.size + 1) (fun j => .bool (if j < i then advF x s g j else false))) ∧ Hid (wr.rowIs b 4 (s.size + 1) (fun j => .bool (g j))) ∧ Hid (AtIn wr q x) ∧ Hid (Below w.heap.size w wr) ∧ s.size + 1 - i ≤ gk)
    case atStart => exact ⟨0, by omega, rfl, HR1.out, HG2.out, HA2.out, HB2.out, by omega⟩
    case round =>
     clear HR1 HG2 HA2 HB2
     obtain ⟨i, hil0, rfl, HR, HG, HA, HB, hgk3⟩ := hrel
     by_cases hil : i < s.size + 1
     ·have hii : (i : Int) < (s.size : Int) + 1 := by omega
      have hi0 : (0 : Int) ≤ (i : Int) := by omega
      have qm := HA.out.mn
      have qg := HG.out.cell (i := i) hil
      have r0 := HR.out.cell (i := i) hil
      rw [if_neg (Nat.lt_irrefl i)] at r0
      have rf := HR.out.frozen i
      have hbN : b < N := by omega
      obtain ⟨gi, hgi⟩ : ∃ gi, g i = gi := ⟨_, rfl⟩
      rw [hgi] at qg
      by_cases hm : x.mn < 1
      ·have HBI : Hid ((decide (x.mn < 1) && g i) = gi) := by show _ = _; rw [decide_eq_true hm, hgi]; rfl
       have HR1 : Hid ((wr.setCell ⟨N, i, none⟩ (.bool gi)).rowIs N 4 (s.size + 1) (fun j => .bool (if j = i then gi else if j < i then advF x s g j else false))) := (HR.out.set i (.bool gi)).congr fun j hj => by
        by_cases h : j = i
        ·rw [if_pos h, if_pos h]
        ·rw [if_neg h, if_neg h]
       have HG1 := Lib.hid (HG.out.of_block (w' := (wr.setCell ⟨N, i, none⟩ (.bool gi))) (Below.heap_setCell _ _ _ _ (show b ≠ N by omega)))
       have HA1 : Hid (AtIn (wr.setCell ⟨N, i, none⟩ (.bool gi)) q x) := HA.out.keep (Below.heap_setCell _ _ _ _ (show q ≠ N by omega))
       have HB1 : Hid (Below w.heap.size w (wr.setCell ⟨N, i, none⟩ (.bool gi))) := HB.out.setCell (p := ⟨N, i, none⟩) (show w.heap.size ≤ N by omega) _
       have hN4 : N < (wr.setCell ⟨N, i, none⟩ (.bool gi)).heap.size := HR1.out.lt
       go_upto_region 15 with fail
       clear HR HG HA HB qm qg r0 rf hgi
       generalize (wr.setCell ⟨N, i, none⟩ (.bool gi)) = w4 at HR1 HG1 HA1 HB1 hN4 ⊢
       rcases i with _ | m
       ·have HVE : Hid (advF x s g 0 = gi) := by show _ = _; rw [adv_zero, HBI.out]
        refine wp_region_at 28 #[false, false, false, false, false, false, false, false, false, false, false, false, false, false, false, false, false, false, false, false, false, false, false, false, false, false, false, false] rfl rfl (by kernel_rfl) ?_
        refine zzM 0 (.int .i64 0) (some 51) rfl ?_
        refine zzA 1 (.bool false) (some 52) rfl (fun _ => ex_binOp .gtr 3 _ _ _ (.int .i64 0) (.int .i64 0) _ rfl (by kernel_rfl) (by kernel_rfl) (by go_simp)) ?_
        refine zzM 2 (.bool false) (some 53) rfl ?_
        refine zzS 3 (some 54) rfl ?_
        refine zzS 4 (some 55) rfl ?_
        refine zzS 5 (some 56) rfl ?_
        refine zzS 6 (some 57) rfl ?_
        refine zzS 7 (some 58) rfl ?_
        refine zzS 8 (some 59) rfl ?_
        refine zzA 9 (.bool false) (some 60) rfl (fun _ => ex_pick _ _ _ false (undef) (.bool false) rfl (by kernel_rfl) (by kernel_rfl) (by kernel_rfl)) ?_
        refine zzM 10 (.bool false) (some 61) rfl ?_
        refine zzS 11 (some 62) rfl ?_
        refine zzS 12 (some 63) rfl ?_
        refine zzS 13 (some 64) rfl ?_
        refine zzS 14 (some 65) rfl ?_
        refine zzS 15 (some 66) rfl ?_
        refine zzS 16 (some 67) rfl ?_
        refine zzS 17 (some 68) rfl ?_
        refine zzS 18 (some 69) rfl ?_
        refine zzS 19 (some 70) rfl ?_
        refine zzS 20 (some 71) rfl ?_
        refine zzS 21 (some 72) rfl ?_
        refine zzS 22 (some 73) rfl ?_
        refine zzS 23 (some 74) rfl ?_
        refine zzS 24 (some 75) rfl ?_
        refine zzS 25 (some 76) rfl ?_
        refine zzS 26 (some 77) rfl ?_
        refine zzA 27 (.bool false) (some 78) rfl (fun _ => ex_pick _ _ _ false (undef) (.bool false) rfl (by kernel_rfl) (by kernel_rfl) (by kernel_rfl)) ?_
        refine wpAny_done (by kernel_rfl) ?_ _
        simp only [Act.put, List.setIfInBounds_toArray, List.set_cons_zero, List.set_cons_succ]
        have HRE : Hid (w4.drew.rowIs N 4 (s.size + 1) (fun j => .bool (if j < 0 + 1 then advF x s g j else false))) := HR1.out.congr fun j hj => by
                  by_cases h : j = 0
                  ·rw [if_pos h, if_pos (by omega), h, HVE.out]
                  ·rw [if_neg h, if_neg (by omega), if_neg (by omega)]
        go_wp2_with fail
        go_roundg (s.size + 1 - (0 + 1))
        case measure => omega
        case rel => exact ⟨0 + 1, by omega, by go_num, HRE.out, HG1.out.drew, HA1.out, HB1.out.drew, Nat.le_refl _⟩
       ·have hms : m < s.size := by omega
        have hmsi : (m : Int) < (s.size : Int) := by omega
        have hm0 : (0 : Int) ≤ (m : Int) := by omega
        have hc1 : ((m + 1 : Nat) : Int) = (m : Int) + 1 := by omega
        rw [hc1]
        have HLD := Lib.hid (run_loadAt_mid (P := Tryz.prog) w4.drew q 0 107 (atC x) _ (at_range HA1.out) hu rfl (by rw [hi, atC_len]))
        have HGT : Hid (∀ w, (do eqGuard .gtr 3 (.tmp 51) (.const (.int .i64 0)) (.int .i64 ((m : Int) + 1)) (.int .i64 0); Go.binOp .gtr 3 (.int .i64 ((m : Int) + 1)) (.int .i64 0) : Sem Value).run Tryz.prog w = .ok (.bool true) w) := by
                  have h1 : (0 : Int) < (m : Int) + 1 := by omega
                  show ∀ w, _ = _
                  intro w
                  go_simp
        have HSB : Hid (∀ {x y : Operand} (w : World), (do eqGuard .sub 3 x y (.int .i64 ((m : Int) + 1)) (.int .i64 1); Go.binOp .sub 3 (.int .i64 ((m : Int) + 1)) (.int .i64 1) : Sem Value).run Tryz.prog w = .ok (.int .i64 m) w) := by
                  show ∀ (x y : Operand) (w : World), _ = _
                  intro x y w
                  go_simp
                  rw [IntKind.wrap_i64]
                  omega
        have HIX : Hid (∀ w, (Instr.index 9 (.string s) (.int .i64 m)).run Tryz.prog w = .ok (.int .u8 (s[m].toNat)) w) := by
                  show ∀ w, _ = _
                  intro w
                  go_simp
        have hmi2 : (m : Int) < (s.size : Int) + 1 := by omega
        have HIB : Hid (∀ w, (Instr.indexAt 134 (.slice (some ⟨b, 0, none⟩) (s.size + 1) (s.size + 1)) (.int .i64 m)).run Tryz.prog w = .ok (.pointer (some ⟨b, m, none⟩)) w) := by
                  show ∀ w, _ = _
                  intro w
                  go_simp
        have HIN : Hid (∀ w, (Instr.indexAt 134 (.slice (some ⟨N, 0, none⟩) (s.size + 1) (s.size + 1)) (.int .i64 m)).run Tryz.prog w = .ok (.pointer (some ⟨N, m, none⟩)) w) := by
                  show ∀ w, _ = _
                  intro w
                  go_simp
        have HV : Hid (advF x s g (m + 1) = (gi || (x.p (s[m].toNat) && (g m || (x.many && advF x s g m))))) := by
                  show _ = _
                  rw [adv_own, HBI.out, bt_get s m hms]
        have HC0 := Lib.hid (fun w => contains_any x (s[m].toNat) w (UInt8.toNat_lt _))
        have HR4 : Hid (w4.drew.rowIs N 4 (s.size + 1) (fun j => .bool (if j = m + 1 then gi else if j < m + 1 then advF x s g j else false))) := HR1.out
        have HG4 : Hid (w4.drew.rowIs b 4 (s.size + 1) (fun j => .bool (g j))) := HG1.out
        have HA4 : Hid (AtIn w4.drew q x) := HA1.out
        have HB4 : Hid (Below w.heap.size w w4.drew) := HB1.out.drew
        have hq4 : q < w4.drew.heap.size := (Array.getElem?_eq_some_iff.1 HA1.out).1
        have hN5 : N < w4.drew.heap.size := hN4
        clear HR1 HG1 HA1 HB1 hN4
        cases hpx : x.p (s[m].toNat) with
        | false =>
          rw [hpx] at HV
          have HC := HC0
          rw [hpx] at HC
          have HVE : Hid (advF x s g (m + 1) = gi) := by
           show _ = _
           rw [HV.out]
           exact Bool.or_false _
          refine wp_region_at 28 #[false, false, false, false, false, false, false, false, false, false, false, false, false, false, false, false, false, false, false, false, false, false, false, false, false, false, false, false] rfl rfl (by kernel_rfl) ?_
          refine zzM 0 (.int .i64 ((m : Int) + 1)) (some 51) rfl ?_
          refine zzA 1 (.bool true) (some 52) rfl (fun _ => ex_binOp .gtr 3 _ _ _ (.int .i64 ((m : Int) + 1)) (.int .i64 0) _ rfl (by kernel_rfl) (by kernel_rfl) (HGT.out _)) ?_
          refine zzM 2 (.bool true) (some 53) rfl ?_
          refine zzM 4 (.string s) (some 55) rfl ?_
          refine zzM 5 (.int .i64 ((m : Int) + 1)) (some 56) rfl ?_
          refine zzA 6 (.int .i64 m) (some 57) rfl (fun _ => ex_binOp .sub 3 _ _ _ (.int .i64 ((m : Int) + 1)) (.int .i64 1) _ rfl (by kernel_rfl) (by kernel_rfl) (HSB.out _)) ?_
          refine zzA 7 (.int .u8 (s[m].toNat)) (some 58) rfl (fun _ => ex_index 9 _ _ (.string s) (.int .i64 m) _ rfl (by kernel_rfl) (by kernel_rfl) (HIX.out _)) ?_
          refine wpAny_val 3 (some 54) (.agg (atC x).toArray) (by kernel_rfl) rfl rfl (by kernel_rfl) (ex_load 107 _ (.pointer (some ⟨q, 0, none⟩)) _ rfl (by kernel_rfl) (HLD.out)) ?_
          refine wpAny_call 8 (some 59) (by kernel_rfl) rfl rfl (by kernel_rfl) 152 (#[.agg (atC x).toArray, .int .u8 (s[m].toNat)]) (by go_simp) (HC.out _) ?_
          rintro e w7 ⟨rfl, hb7⟩
          refine ⟨_, rfl, ?_⟩
          have qa := (HG4.out.of_block (hb7.block _ HG4.out.lt)).cell (i := m) (by omega)
          have qn := (HR4.out.of_block (hb7.block _ HR4.out.lt)).cell (i := m) (by omega)
          have qy := (HA4.out.keep (hb7.block _ hq4)).many
          rw [if_neg (by omega), if_pos (by omega)] at qn
          have rf7 := (HR4.out.of_block (hb7.block _ HR4.out.lt)).frozen (m + 1)
          have r7 := (HR4.out.of_block (hb7.block _ HR4.out.lt)).cell (i := m + 1) hil
          rw [if_pos rfl] at r7
          change wpAny _ _ _ _ _ _ (Act.put _ (some 59) _) _
          refine zzA 9 (.bool false) (some 60) rfl (fun _ => ex_pick _ _ _ true (.bool false) (.bool false) rfl (by kernel_rfl) (by kernel_rfl) (by kernel_rfl)) ?_
          refine zzM 10 (.bool false) (some 61) rfl ?_
          refine zzS 11 (some 62) rfl ?_
          refine zzS 12 (some 63) rfl ?_
          refine zzS 13 (some 64) rfl ?_
          refine zzS 14 (some 65) rfl ?_
          refine zzS 15 (some 66) rfl ?_
          refine zzS 16 (some 67) rfl ?_
          refine zzS 17 (some 68) rfl ?_
          refine zzS 18 (some 69) rfl ?_
          refine zzS 19 (some 70) rfl ?_
          refine zzS 20 (some 71) rfl ?_
          refine zzS 21 (some 72) rfl ?_
          refine zzS 22 (some 73) rfl ?_
          refine zzS 23 (some 74) rfl ?_
          refine zzS 24 (some 75) rfl ?_
          refine zzS 25 (some 76) rfl ?_
          refine zzS 26 (some 77) rfl ?_
          refine zzA 27 (.bool false) (some 78) rfl (fun _ => ex_pick _ _ _ false (undef) (.bool false) rfl (by kernel_rfl) (by kernel_rfl) (by kernel_rfl)) ?_
          refine wpAny_done (by kernel_rfl) ?_ _
          simp only [Act.put, List.setIfInBounds_toArray, List.set_cons_zero, List.set_cons_succ]
          go_wp2_with fail
          have HR7 := Lib.hid (HR4.out.of_block (hb7.block _ HR4.out.lt))
          have HG7 := Lib.hid (HG4.out.of_block (hb7.block _ HG4.out.lt))
          have HA7 := Lib.hid (HA4.out.keep (hb7.block _ hq4))
          have HB7 := Lib.hid (HB4.out.trans (hb7.mono HB4.out.size))
          have HRE : Hid (w7.rowIs N 4 (s.size + 1) (fun j => .bool (if j < m + 1 + 1 then advF x s g j else false))) := HR7.out.congr fun j hj => by
           by_cases h : j = m + 1
           ·rw [if_pos h, if_pos (by omega), h, HVE.out]
           ·rw [if_neg h]
            by_cases h2 : j < m + 1
            ·rw [if_pos h2, if_pos (by omega)]
            ·rw [if_neg h2, if_neg (by omega)]
          go_roundg (s.size + 1 - (m + 1 + 1))
          case measure => omega
          case rel => exact ⟨m + 1 + 1, by omega, by go_num, HRE.out, HG7.out, HA7.out, HB7.out, Nat.le_refl _⟩
        | true =>
          rw [hpx] at HV
          have HC := HC0
          rw [hpx] at HC
          cases hfi : g m with
          | true =>
            rw [hfi] at HV
            have HVE : Hid (advF x s g (m + 1) = true) := by
             show _ = _
             rw [HV.out]
             exact Bool.or_true _
            refine wp_region_at 28 #[false, false, false, false, false, false, false, false, false, false, false, false, false, false, false, false, false, false, false, false, false, false, false, false, false, false, false, false] rfl rfl (by kernel_rfl) ?_
            refine zzM 0 (.int .i64 ((m : Int) + 1)) (some 51) rfl ?_
            refine zzA 1 (.bool true) (some 52) rfl (fun _ => ex_binOp .gtr 3 _ _ _ (.int .i64 ((m : Int) + 1)) (.int .i64 0) _ rfl (by kernel_rfl) (by kernel_rfl) (HGT.out _)) ?_
            refine zzM 2 (.bool true) (some 53) rfl ?_
            refine zzM 4 (.string s) (some 55) rfl ?_
            refine zzM 5 (.int .i64 ((m : Int) + 1)) (some 56) rfl ?_
            refine zzA 6 (.int .i64 m) (some 57) rfl (fun _ => ex_binOp .sub 3 _ _ _ (.int .i64 ((m : Int) + 1)) (.int .i64 1) _ rfl (by kernel_rfl) (by kernel_rfl) (HSB.out _)) ?_
            refine zzA 7 (.int .u8 (s[m].toNat)) (some 58) rfl (fun _ => ex_index 9 _ _ (.string s) (.int .i64 m) _ rfl (by kernel_rfl) (by kernel_rfl) (HIX.out _)) ?_
            refine wpAny_val 3 (some 54) (.agg (atC x).toArray) (by kernel_rfl) rfl rfl (by kernel_rfl) (ex_load 107 _ (.pointer (some ⟨q, 0, none⟩)) _ rfl (by kernel_rfl) (HLD.out)) ?_
            refine wpAny_call 8 (some 59) (by kernel_rfl) rfl rfl (by kernel_rfl) 152 (#[.agg (atC x).toArray, .int .u8 (s[m].toNat)]) (by go_simp) (HC.out _) ?_
            rintro e w7 ⟨rfl, hb7⟩
            refine ⟨_, rfl, ?_⟩
            have qa := (HG4.out.of_block (hb7.block _ HG4.out.lt)).cell (i := m) (by omega)
            have qn := (HR4.out.of_block (hb7.block _ HR4.out.lt)).cell (i := m) (by omega)
            have qy := (HA4.out.keep (hb7.block _ hq4)).many
            rw [if_neg (by omega), if_pos (by omega)] at qn
            rw [hfi] at qa
            have rf7 := (HR4.out.of_block (hb7.block _ HR4.out.lt)).frozen (m + 1)
            have r7 := (HR4.out.of_block (hb7.block _ HR4.out.lt)).cell (i := m + 1) hil
            rw [if_pos rfl] at r7
            change wpAny _ _ _ _ _ _ (Act.put _ (some 59) _) _
            refine zzA 9 (.bool true) (some 60) rfl (fun _ => ex_pick _ _ _ true (.bool true) (.bool false) rfl (by kernel_rfl) (by kernel_rfl) (by kernel_rfl)) ?_
            refine zzM 10 (.bool true) (some 61) rfl ?_
            refine zzM 11 (.slice (some ⟨b, 0, none⟩) (s.size + 1) (s.size + 1)) (some 62) rfl ?_
            refine zzM 12 (.int .i64 ((m : Int) + 1)) (some 63) rfl ?_
            refine zzA 13 (.int .i64 m) (some 64) rfl (fun _ => ex_binOp .sub 3 _ _ _ (.int .i64 ((m : Int) + 1)) (.int .i64 1) _ rfl (by kernel_rfl) (by kernel_rfl) (HSB.out _)) ?_
            refine zzA 14 (.pointer (some ⟨b, m, none⟩)) (some 65) rfl (fun _ => ex_indexAddr 134 _ _ (.slice (some ⟨b, 0, none⟩) (s.size + 1) (s.size + 1)) (.int .i64 m) _ rfl (by kernel_rfl) (by kernel_rfl) (HIB.out _)) ?_
            refine wpAny_val 15 (some 66) (.bool true) (by kernel_rfl) rfl rfl (by kernel_rfl) (ex_load 4 _ (.pointer (some ⟨b, m, none⟩)) _ rfl (by kernel_rfl) (by go_simp)) ?_
            refine zzM 16 (.bool true) (some 67) rfl ?_
            refine zzS 17 (some 68) rfl ?_
            refine zzS 18 (some 69) rfl ?_
            refine zzS 19 (some 70) rfl ?_
            refine zzS 20 (some 71) rfl ?_
            refine zzS 21 (some 72) rfl ?_
            refine zzS 22 (some 73) rfl ?_
            refine zzS 23 (some 74) rfl ?_
            refine zzS 24 (some 75) rfl ?_
            refine zzS 25 (some 76) rfl ?_
            refine zzA 26 (.bool true) (some 77) rfl (fun _ => ex_pick _ _ _ true (.bool true) (undef) rfl (by kernel_rfl) (by kernel_rfl) (by kernel_rfl)) ?_
            refine zzA 27 (.bool true) (some 78) rfl (fun _ => ex_pick _ _ _ true (.bool true) (.bool false) rfl (by kernel_rfl) (by kernel_rfl) (by kernel_rfl)) ?_
            refine wpAny_done (by kernel_rfl) ?_ _
            simp only [Act.put, List.setIfInBounds_toArray, List.set_cons_zero, List.set_cons_succ]
            go_wp2_with fail
            have HR7 := Lib.hid (HR4.out.of_block (hb7.block _ HR4.out.lt))
            have HG7 := Lib.hid (HG4.out.of_block (hb7.block _ HG4.out.lt))
            have HA7 := Lib.hid (HA4.out.keep (hb7.block _ hq4))
            have HB7 := Lib.hid (HB4.out.trans (hb7.mono HB4.out.size))
            have HRE : Hid ((w7.setCell ⟨N, m + 1, none⟩ (.bool true)).rowIs N 4 (s.size + 1) (fun j => .bool (if j < m + 1 + 1 then advF x s g j else false))) := (HR7.out.set (m + 1) (.bool true)).congr fun j hj => by
             by_cases h : j = m + 1
             ·rw [if_pos h, if_pos (by omega), h, HVE.out]
             ·rw [if_neg h, if_neg h]
              by_cases h2 : j < m + 1
              ·rw [if_pos h2, if_pos (by omega)]
              ·rw [if_neg h2, if_neg (by omega)]
            go_roundg (s.size + 1 - (m + 1 + 1))
            case measure => omega
            case rel => exact ⟨m + 1 + 1, by omega, by go_num, HRE.out, HG7.out.of_block (Below.heap_setCell _ _ _ _ (show b ≠ N by omega)), HA7.out.keep (Below.heap_setCell _ _ _ _ (show q ≠ N by omega)), HB7.out.setCell (p := ⟨N, m + 1, none⟩) (show w.heap.size ≤ N by omega) _, Nat.le_refl _⟩
          | false =>
            rw [hfi] at HV
            cases hmm : x.many with
            | false =>
              rw [hmm] at HV
              have HVE : Hid (advF x s g (m + 1) = gi) := by
                  show _ = _
                  rw [HV.out]
                  exact Bool.or_false _
              refine wp_region_at 28 #[false, false, false, false, false, false, false, false, false, false, false, false, false, false, false, false, false, false, false, false, false, false, false, false, false, false, false, false] rfl rfl (by kernel_rfl) ?_
              refine zzM 0 (.int .i64 ((m : Int) + 1)) (some 51) rfl ?_
              refine zzA 1 (.bool true) (some 52) rfl (fun _ => ex_binOp .gtr 3 _ _ _ (.int .i64 ((m : Int) + 1)) (.int .i64 0) _ rfl (by kernel_rfl) (by kernel_rfl) (HGT.out _)) ?_
              refine zzM 2 (.bool true) (some 53) rfl ?_
              refine zzM 4 (.string s) (some 55) rfl ?_
              refine zzM 5 (.int .i64 ((m : Int) + 1)) (some 56) rfl ?_
              refine zzA 6 (.int .i64 m) (some 57) rfl (fun _ => ex_binOp .sub 3 _ _ _ (.int .i64 ((m : Int) + 1)) (.int .i64 1) _ rfl (by kernel_rfl) (by kernel_rfl) (HSB.out _)) ?_
              refine zzA 7 (.int .u8 (s[m].toNat)) (some 58) rfl (fun _ => ex_index 9 _ _ (.string s) (.int .i64 m) _ rfl (by kernel_rfl) (by kernel_rfl) (HIX.out _)) ?_
              refine wpAny_val 3 (some 54) (.agg (atC x).toArray) (by kernel_rfl) rfl rfl (by kernel_rfl) (ex_load 107 _ (.pointer (some ⟨q, 0, none⟩)) _ rfl (by kernel_rfl) (HLD.out)) ?_
              refine wpAny_call 8 (some 59) (by kernel_rfl) rfl rfl (by kernel_rfl) 152 (#[.agg (atC x).toArray, .int .u8 (s[m].toNat)]) (by go_simp) (HC.out _) ?_
              rintro e w7 ⟨rfl, hb7⟩
              refine ⟨_, rfl, ?_⟩
              have qa := (HG4.out.of_block (hb7.block _ HG4.out.lt)).cell (i := m) (by omega)
              have qn := (HR4.out.of_block (hb7.block _ HR4.out.lt)).cell (i := m) (by omega)
              have qy := (HA4.out.keep (hb7.block _ hq4)).many
              rw [if_neg (by omega), if_pos (by omega)] at qn
              rw [hfi] at qa
              rw [hmm] at qy
              have rf7 := (HR4.out.of_block (hb7.block _ HR4.out.lt)).frozen (m + 1)
              have r7 := (HR4.out.of_block (hb7.block _ HR4.out.lt)).cell (i := m + 1) hil
              rw [if_pos rfl] at r7
              change wpAny _ _ _ _ _ _ (Act.put _ (some 59) _) _
              refine zzA 9 (.bool true) (some 60) rfl (fun _ => ex_pick _ _ _ true (.bool true) (.bool false) rfl (by kernel_rfl) (by kernel_rfl) (by kernel_rfl)) ?_
              refine zzM 10 (.bool true) (some 61) rfl ?_
              refine zzM 11 (.slice (some ⟨b, 0, none⟩) (s.size + 1) (s.size + 1)) (some 62) rfl ?_
              refine zzM 12 (.int .i64 ((m : Int) + 1)) (some 63) rfl ?_
              refine zzA 13 (.int .i64 m) (some 64) rfl (fun _ => ex_binOp .sub 3 _ _ _ (.int .i64 ((m : Int) + 1)) (.int .i64 1) _ rfl (by kernel_rfl) (by kernel_rfl) (HSB.out _)) ?_
              refine zzA 14 (.pointer (some ⟨b, m, none⟩)) (some 65) rfl (fun _ => ex_indexAddr 134 _ _ (.slice (some ⟨b, 0, none⟩) (s.size + 1) (s.size + 1)) (.int .i64 m) _ rfl (by kernel_rfl) (by kernel_rfl) (HIB.out _)) ?_
              refine wpAny_val 15 (some 66) (.bool false) (by kernel_rfl) rfl rfl (by kernel_rfl) (ex_load 4 _ (.pointer (some ⟨b, m, none⟩)) _ rfl (by kernel_rfl) (by go_simp)) ?_
              refine zzM 16 (.bool false) (some 67) rfl ?_
              refine zzA 17 (.pointer (some ⟨q, 33, none⟩)) (some 68) rfl (fun _ => ex_fieldAddr 107 _ 2 (.pointer (some ⟨q, 0, none⟩)) _ rfl (by kernel_rfl) (by go_simp)) ?_
              refine wpAny_val 18 (some 69) (.bool false) (by kernel_rfl) rfl rfl (by kernel_rfl) (ex_load 4 _ (.pointer (some ⟨q, 33, none⟩)) _ rfl (by kernel_rfl) (by go_simp)) ?_
              refine zzM 19 (.bool false) (some 70) rfl ?_
              refine zzS 20 (some 71) rfl ?_
              refine zzS 21 (some 72) rfl ?_
              refine zzS 22 (some 73) rfl ?_
              refine zzS 23 (some 74) rfl ?_
              refine zzS 24 (some 75) rfl ?_
              refine zzA 25 (.bool false) (some 76) rfl (fun _ => ex_pick _ _ _ false (undef) (.bool false) rfl (by kernel_rfl) (by kernel_rfl) (by kernel_rfl)) ?_
              refine zzA 26 (.bool false) (some 77) rfl (fun _ => ex_pick _ _ _ false (.bool true) (.bool false) rfl (by kernel_rfl) (by kernel_rfl) (by kernel_rfl)) ?_
              refine zzA 27 (.bool false) (some 78) rfl (fun _ => ex_pick _ _ _ true (.bool false) (.bool false) rfl (by kernel_rfl) (by kernel_rfl) (by kernel_rfl)) ?_
              refine wpAny_done (by kernel_rfl) ?_ _
              simp only [Act.put, List.setIfInBounds_toArray, List.set_cons_zero, List.set_cons_succ]
              go_wp2_with fail
              have HR7 := Lib.hid (HR4.out.of_block (hb7.block _ HR4.out.lt))
              have HG7 := Lib.hid (HG4.out.of_block (hb7.block _ HG4.out.lt))
              have HA7 := Lib.hid (HA4.out.keep (hb7.block _ hq4))
              have HB7 := Lib.hid (HB4.out.trans (hb7.mono HB4.out.size))
              have HRE : Hid (w7.rowIs N 4 (s.size + 1) (fun j => .bool (if j < m + 1 + 1 then advF x s g j else false))) := HR7.out.congr fun j hj => by
                  by_cases h : j = m + 1
                  ·rw [if_pos h, if_pos (by omega), h, HVE.out]
                  ·rw [if_neg h]
                   by_cases h2 : j < m + 1
                   ·rw [if_pos h2, if_pos (by omega)]
                   ·rw [if_neg h2, if_neg (by omega)]
              go_roundg (s.size + 1 - (m + 1 + 1))
              case measure => omega
              case rel => exact ⟨m + 1 + 1, by omega, by go_num, HRE.out, HG7.out, HA7.out, HB7.out, Nat.le_refl _⟩
            | true =>
              rw [hmm] at HV
              cases hni : advF x s g m with
              | true =>
                rw [hni] at HV
                have HVE : Hid (advF x s g (m + 1) = true) := by
                 show _ = _
                 rw [HV.out]
                 exact Bool.or_true _
                refine wp_region_at 28 #[false, false, false, false, false, false, false, false, false, false, false, false, false, false, false, false, false, false, false, false, false, false, false, false, false, false, false, false] rfl rfl (by kernel_rfl) ?_
                refine zzM 0 (.int .i64 ((m : Int) + 1)) (some 51) rfl ?_
                refine zzA 1 (.bool true) (some 52) rfl (fun _ => ex_binOp .gtr 3 _ _ _ (.int .i64 ((m : Int) + 1)) (.int .i64 0) _ rfl (by kernel_rfl) (by kernel_rfl) (HGT.out _)) ?_
                refine zzM 2 (.bool true) (some 53) rfl ?_
                refine zzM 4 (.string s) (some 55) rfl ?_
                refine zzM 5 (.int .i64 ((m : Int) + 1)) (some 56) rfl ?_
                refine zzA 6 (.int .i64 m) (some 57) rfl (fun _ => ex_binOp .sub 3 _ _ _ (.int .i64 ((m : Int) + 1)) (.int .i64 1) _ rfl (by kernel_rfl) (by kernel_rfl) (HSB.out _)) ?_
                refine zzA 7 (.int .u8 (s[m].toNat)) (some 58) rfl (fun _ => ex_index 9 _ _ (.string s) (.int .i64 m) _ rfl (by kernel_rfl) (by kernel_rfl) (HIX.out _)) ?_
                refine wpAny_val 3 (some 54) (.agg (atC x).toArray) (by kernel_rfl) rfl rfl (by kernel_rfl) (ex_load 107 _ (.pointer (some ⟨q, 0, none⟩)) _ rfl (by kernel_rfl) (HLD.out)) ?_
                refine wpAny_call 8 (some 59) (by kernel_rfl) rfl rfl (by kernel_rfl) 152 (#[.agg (atC x).toArray, .int .u8 (s[m].toNat)]) (by go_simp) (HC.out _) ?_
                rintro e w7 ⟨rfl, hb7⟩
                refine ⟨_, rfl, ?_⟩
                have qa := (HG4.out.of_block (hb7.block _ HG4.out.lt)).cell (i := m) (by omega)
                have qn := (HR4.out.of_block (hb7.block _ HR4.out.lt)).cell (i := m) (by omega)
                have qy := (HA4.out.keep (hb7.block _ hq4)).many
                rw [if_neg (by omega), if_pos (by omega)] at qn
                rw [hfi] at qa
                rw [hmm] at qy
                rw [hni] at qn
                have rf7 := (HR4.out.of_block (hb7.block _ HR4.out.lt)).frozen (m + 1)
                have r7 := (HR4.out.of_block (hb7.block _ HR4.out.lt)).cell (i := m + 1) hil
                rw [if_pos rfl] at r7
                change wpAny _ _ _ _ _ _ (Act.put _ (some 59) _) _
                refine zzA 9 (.bool true) (some 60) rfl (fun _ => ex_pick _ _ _ true (.bool true) (.bool false) rfl (by kernel_rfl) (by kernel_rfl) (by kernel_rfl)) ?_
                refine zzM 10 (.bool true) (some 61) rfl ?_
                refine zzM 11 (.slice (some ⟨b, 0, none⟩) (s.size + 1) (s.size + 1)) (some 62) rfl ?_
                refine zzM 12 (.int .i64 ((m : Int) + 1)) (some 63) rfl ?_
                refine zzA 13 (.int .i64 m) (some 64) rfl (fun _ => ex_binOp .sub 3 _ _ _ (.int .i64 ((m : Int) + 1)) (.int .i64 1) _ rfl (by kernel_rfl) (by kernel_rfl) (HSB.out _)) ?_
                refine zzA 14 (.pointer (some ⟨b, m, none⟩)) (some 65) rfl (fun _ => ex_indexAddr 134 _ _ (.slice (some ⟨b, 0, none⟩) (s.size + 1) (s.size + 1)) (.int .i64 m) _ rfl (by kernel_rfl) (by kernel_rfl) (HIB.out _)) ?_
                refine wpAny_val 15 (some 66) (.bool false) (by kernel_rfl) rfl rfl (by kernel_rfl) (ex_load 4 _ (.pointer (some ⟨b, m, none⟩)) _ rfl (by kernel_rfl) (by go_simp)) ?_
                refine zzM 16 (.bool false) (some 67) rfl ?_
                refine zzA 17 (.pointer (some ⟨q, 33, none⟩)) (some 68) rfl (fun _ => ex_fieldAddr 107 _ 2 (.pointer (some ⟨q, 0, none⟩)) _ rfl (by kernel_rfl) (by go_simp)) ?_
                refine wpAny_val 18 (some 69) (.bool true) (by kernel_rfl) rfl rfl (by kernel_rfl) (ex_load 4 _ (.pointer (some ⟨q, 33, none⟩)) _ rfl (by kernel_rfl) (by go_simp)) ?_
                refine zzM 19 (.bool true) (some 70) rfl ?_
                refine zzM 20 (.slice (some ⟨N, 0, none⟩) (s.size + 1) (s.size + 1)) (some 71) rfl ?_
                refine zzM 21 (.int .i64 ((m : Int) + 1)) (some 72) rfl ?_
                refine zzA 22 (.int .i64 m) (some 73) rfl (fun _ => ex_binOp .sub 3 _ _ _ (.int .i64 ((m : Int) + 1)) (.int .i64 1) _ rfl (by kernel_rfl) (by kernel_rfl) (HSB.out _)) ?_
                refine zzA 23 (.pointer (some ⟨N, m, none⟩)) (some 74) rfl (fun _ => ex_indexAddr 134 _ _ (.slice (some ⟨N, 0, none⟩) (s.size + 1) (s.size + 1)) (.int .i64 m) _ rfl (by kernel_rfl) (by kernel_rfl) (HIN.out _)) ?_
                refine wpAny_val 24 (some 75) (.bool true) (by kernel_rfl) rfl rfl (by kernel_rfl) (ex_load 4 _ (.pointer (some ⟨N, m, none⟩)) _ rfl (by kernel_rfl) (by go_simp)) ?_
                refine zzA 25 (.bool true) (some 76) rfl (fun _ => ex_pick _ _ _ true (.bool true) (.bool false) rfl (by kernel_rfl) (by kernel_rfl) (by kernel_rfl)) ?_
                refine zzA 26 (.bool true) (some 77) rfl (fun _ => ex_pick _ _ _ false (.bool true) (.bool true) rfl (by kernel_rfl) (by kernel_rfl) (by kernel_rfl)) ?_
                refine zzA 27 (.bool true) (some 78) rfl (fun _ => ex_pick _ _ _ true (.bool true) (.bool false) rfl (by kernel_rfl) (by kernel_rfl) (by kernel_rfl)) ?_
                refine wpAny_done (by kernel_rfl) ?_ _
                simp only [Act.put, List.setIfInBounds_toArray, List.set_cons_zero, List.set_cons_succ]
                go_wp2_with fail
                have HR7 := Lib.hid (HR4.out.of_block (hb7.block _ HR4.out.lt))
                have HG7 := Lib.hid (HG4.out.of_block (hb7.block _ HG4.out.lt))
                have HA7 := Lib.hid (HA4.out.keep (hb7.block _ hq4))
                have HB7 := Lib.hid (HB4.out.trans (hb7.mono HB4.out.size))
                have HRE : Hid ((w7.setCell ⟨N, m + 1, none⟩ (.bool true)).rowIs N 4 (s.size + 1) (fun j => .bool (if j < m + 1 + 1 then advF x s g j else false))) := (HR7.out.set (m + 1) (.bool true)).congr fun j hj => by
                 by_cases h : j = m + 1
                 ·rw [if_pos h, if_pos (by omega), h, HVE.out]
                 ·rw [if_neg h, if_neg h]
                  by_cases h2 : j < m + 1
                  ·rw [if_pos h2, if_pos (by omega)]
                  ·rw [if_neg h2, if_neg (by omega)]
                go_roundg (s.size + 1 - (m + 1 + 1))
                case measure => omega
                case rel => exact ⟨m + 1 + 1, by omega, by go_num, HRE.out, HG7.out.of_block (Below.heap_setCell _ _ _ _ (show b ≠ N by omega)), HA7.out.keep (Below.heap_setCell _ _ _ _ (show q ≠ N by omega)), HB7.out.setCell (p := ⟨N, m + 1, none⟩) (show w.heap.size ≤ N by omega) _, Nat.le_refl _⟩
              | false =>
                rw [hni] at HV
                have HVE : Hid (advF x s g (m + 1) = gi) := by
                 show _ = _
                 rw [HV.out]
                 exact Bool.or_false _
                refine wp_region_at 28 #[false, false, false, false, false, false, false, false, false, false, false, false, false, false, false, false, false, false, false, false, false, false, false, false, false, false, false, false] rfl rfl (by kernel_rfl) ?_
                refine zzM 0 (.int .i64 ((m : Int) + 1)) (some 51) rfl ?_
                refine zzA 1 (.bool true) (some 52) rfl (fun _ => ex_binOp .gtr 3 _ _ _ (.int .i64 ((m : Int) + 1)) (.int .i64 0) _ rfl (by kernel_rfl) (by kernel_rfl) (HGT.out _)) ?_
                refine zzM 2 (.bool true) (some 53) rfl ?_
                refine zzM 4 (.string s) (some 55) rfl ?_
                refine zzM 5 (.int .i64 ((m : Int) + 1)) (some 56) rfl ?_
                refine zzA 6 (.int .i64 m) (some 57) rfl (fun _ => ex_binOp .sub 3 _ _ _ (.int .i64 ((m : Int) + 1)) (.int .i64 1) _ rfl (by kernel_rfl) (by kernel_rfl) (HSB.out _)) ?_
                refine zzA 7 (.int .u8 (s[m].toNat)) (some 58) rfl (fun _ => ex_index 9 _ _ (.string s) (.int .i64 m) _ rfl (by kernel_rfl) (by kernel_rfl) (HIX.out _)) ?_
                refine wpAny_val 3 (some 54) (.agg (atC x).toArray) (by kernel_rfl) rfl rfl (by kernel_rfl) (ex_load 107 _ (.pointer (some ⟨q, 0, none⟩)) _ rfl (by kernel_rfl) (HLD.out)) ?_
                refine wpAny_call 8 (some 59) (by kernel_rfl) rfl rfl (by kernel_rfl) 152 (#[.agg (atC x).toArray, .int .u8 (s[m].toNat)]) (by go_simp) (HC.out _) ?_
                rintro e w7 ⟨rfl, hb7⟩
                refine ⟨_, rfl, ?_⟩
                have qa := (HG4.out.of_block (hb7.block _ HG4.out.lt)).cell (i := m) (by omega)
                have qn := (HR4.out.of_block (hb7.block _ HR4.out.lt)).cell (i := m) (by omega)
                have qy := (HA4.out.keep (hb7.block _ hq4)).many
                rw [if_neg (by omega), if_pos (by omega)] at qn
                rw [hfi] at qa
                rw [hmm] at qy
                rw [hni] at qn
                have rf7 := (HR4.out.of_block (hb7.block _ HR4.out.lt)).frozen (m + 1)
                have r7 := (HR4.out.of_block (hb7.block _ HR4.out.lt)).cell (i := m + 1) hil
                rw [if_pos rfl] at r7
                change wpAny _ _ _ _ _ _ (Act.put _ (some 59) _) _
                refine zzA 9 (.bool true) (some 60) rfl (fun _ => ex_pick _ _ _ true (.bool true) (.bool false) rfl (by kernel_rfl) (by kernel_rfl) (by kernel_rfl)) ?_
                refine zzM 10 (.bool true) (some 61) rfl ?_
                refine zzM 11 (.slice (some ⟨b, 0, none⟩) (s.size + 1) (s.size + 1)) (some 62) rfl ?_
                refine zzM 12 (.int .i64 ((m : Int) + 1)) (some 63) rfl ?_
                refine zzA 13 (.int .i64 m) (some 64) rfl (fun _ => ex_binOp .sub 3 _ _ _ (.int .i64 ((m : Int) + 1)) (.int .i64 1) _ rfl (by kernel_rfl) (by kernel_rfl) (HSB.out _)) ?_
                refine zzA 14 (.pointer (some ⟨b, m, none⟩)) (some 65) rfl (fun _ => ex_indexAddr 134 _ _ (.slice (some ⟨b, 0, none⟩) (s.size + 1) (s.size + 1)) (.int .i64 m) _ rfl (by kernel_rfl) (by kernel_rfl) (HIB.out _)) ?_
                refine wpAny_val 15 (some 66) (.bool false) (by kernel_rfl) rfl rfl (by kernel_rfl) (ex_load 4 _ (.pointer (some ⟨b, m, none⟩)) _ rfl (by kernel_rfl) (by go_simp)) ?_
                refine zzM 16 (.bool false) (some 67) rfl ?_
                refine zzA 17 (.pointer (some ⟨q, 33, none⟩)) (some 68) rfl (fun _ => ex_fieldAddr 107 _ 2 (.pointer (some ⟨q, 0, none⟩)) _ rfl (by kernel_rfl) (by go_simp)) ?_
                refine wpAny_val 18 (some 69) (.bool true) (by kernel_rfl) rfl rfl (by kernel_rfl) (ex_load 4 _ (.pointer (some ⟨q, 33, none⟩)) _ rfl (by kernel_rfl) (by go_simp)) ?_
                refine zzM 19 (.bool true) (some 70) rfl ?_
                refine zzM 20 (.slice (some ⟨N, 0, none⟩) (s.size + 1) (s.size + 1)) (some 71) rfl ?_
                refine zzM 21 (.int .i64 ((m : Int) + 1)) (some 72) rfl ?_
                refine zzA 22 (.int .i64 m) (some 73) rfl (fun _ => ex_binOp .sub 3 _ _ _ (.int .i64 ((m : Int) + 1)) (.int .i64 1) _ rfl (by kernel_rfl) (by kernel_rfl) (HSB.out _)) ?_
                refine zzA 23 (.pointer (some ⟨N, m, none⟩)) (some 74) rfl (fun _ => ex_indexAddr 134 _ _ (.slice (some ⟨N, 0, none⟩) (s.size + 1) (s.size + 1)) (.int .i64 m) _ rfl (by kernel_rfl) (by kernel_rfl) (HIN.out _)) ?_
                refine wpAny_val 24 (some 75) (.bool false) (by kernel_rfl) rfl rfl (by kernel_rfl) (ex_load 4 _ (.pointer (some ⟨N, m, none⟩)) _ rfl (by kernel_rfl) (by go_simp)) ?_
                refine zzA 25 (.bool false) (some 76) rfl (fun _ => ex_pick _ _ _ true (.bool false) (.bool false) rfl (by kernel_rfl) (by kernel_rfl) (by kernel_rfl)) ?_
                refine zzA 26 (.bool false) (some 77) rfl (fun _ => ex_pick _ _ _ false (.bool true) (.bool false) rfl (by kernel_rfl) (by kernel_rfl) (by kernel_rfl)) ?_
                refine zzA 27 (.bool false) (some 78) rfl (fun _ => ex_pick _ _ _ true (.bool false) (.bool false) rfl (by kernel_rfl) (by kernel_rfl) (by kernel_rfl)) ?_
                refine wpAny_done (by kernel_rfl) ?_ _
                simp only [Act.put, List.setIfInBounds_toArray, List.set_cons_zero, List.set_cons_succ]
                go_wp2_with fail
                have HR7 := Lib.hid (HR4.out.of_block (hb7.block _ HR4.out.lt))
                have HG7 := Lib.hid (HG4.out.of_block (hb7.block _ HG4.out.lt))
                have HA7 := Lib.hid (HA4.out.keep (hb7.block _ hq4))
                have HB7 := Lib.hid (HB4.out.trans (hb7.mono HB4.out.size))
                have HRE : Hid (w7.rowIs N 4 (s.size + 1) (fun j => .bool (if j < m + 1 + 1 then advF x s g j else false))) := HR7.out.congr fun j hj => by
                 by_cases h : j = m + 1
                 ·rw [if_pos h, if_pos (by omega), h, HVE.out]
                 ·rw [if_neg h]
                  by_cases h2 : j < m + 1
                  ·rw [if_pos h2, if_pos (by omega)]
                  ·rw [if_neg h2, if_neg (by omega)]
                go_roundg (s.size + 1 - (m + 1 + 1))
                case measure => omega
                case rel => exact ⟨m + 1 + 1, by omega, by go_num, HRE.out, HG7.out, HA7.out, HB7.out, Nat.le_refl _⟩
      ·have HBI : Hid ((decide (x.mn < 1) && g i) = false) := by show _ = _; rw [decide_eq_false hm]; rfl
       have HR1 : Hid ((wr.setCell ⟨N, i, none⟩ (.bool false)).rowIs N 4 (s.size + 1) (fun j => .bool (if j = i then false else if j < i then advF x s g j else false))) := (HR.out.set i (.bool false)).congr fun j hj => by
        by_cases h : j = i
        ·rw [if_pos h, if_pos h]
        ·rw [if_neg h, if_neg h]
       have HG1 := Lib.hid (HG.out.of_block (w' := (wr.setCell ⟨N, i, none⟩ (.bool false))) (Below.heap_setCell _ _ _ _ (show b ≠ N by omega)))
       have HA1 : Hid (AtIn (wr.setCell ⟨N, i, none⟩ (.bool false)) q x) := HA.out.keep (Below.heap_setCell _ _ _ _ (show q ≠ N by omega))
       have HB1 : Hid (Below w.heap.size w (wr.setCell ⟨N, i, none⟩ (.bool false))) := HB.out.setCell (p := ⟨N, i, none⟩) (show w.heap.size ≤ N by omega) _
       have hN4 : N < (wr.setCell ⟨N, i, none⟩ (.bool false)).heap.size := HR1.out.lt
       go_upto_region 15 with fail
       clear HR HG HA HB qm qg r0 rf hgi
       generalize (wr.setCell ⟨N, i, none⟩ (.bool false)) = w4 at HR1 HG1 HA1 HB1 hN4 ⊢
       rcases i with _ | m
       ·have HVE : Hid (advF x s g 0 = false) := by show _ = _; rw [adv_zero, HBI.out]
        refine wp_region_at 28 #[false, false, false, false, false, false, false, false, false, false, false, false, false, false, false, false, false, false, false, false, false, false, false, false, false, false, false, false] rfl rfl (by kernel_rfl) ?_
        refine zzM 0 (.int .i64 0) (some 51) rfl ?_
        refine zzA 1 (.bool false) (some 52) rfl (fun _ => ex_binOp .gtr 3 _ _ _ (.int .i64 0) (.int .i64 0) _ rfl (by kernel_rfl) (by kernel_rfl) (by go_simp)) ?_
        refine zzM 2 (.bool false) (some 53) rfl ?_
        refine zzS 3 (some 54) rfl ?_
        refine zzS 4 (some 55) rfl ?_
        refine zzS 5 (some 56) rfl ?_
        refine zzS 6 (some 57) rfl ?_
        refine zzS 7 (some 58) rfl ?_
        refine zzS 8 (some 59) rfl ?_
        refine zzA 9 (.bool false) (some 60) rfl (fun _ => ex_pick _ _ _ false (undef) (.bool false) rfl (by kernel_rfl) (by kernel_rfl) (by kernel_rfl)) ?_
        refine zzM 10 (.bool false) (some 61) rfl ?_
        refine zzS 11 (some 62) rfl ?_
        refine zzS 12 (some 63) rfl ?_
        refine zzS 13 (some 64) rfl ?_
        refine zzS 14 (some 65) rfl ?_
        refine zzS 15 (some 66) rfl ?_
        refine zzS 16 (some 67) rfl ?_
        refine zzS 17 (some 68) rfl ?_
        refine zzS 18 (some 69) rfl ?_
        refine zzS 19 (some 70) rfl ?_
        refine zzS 20 (some 71) rfl ?_
        refine zzS 21 (some 72) rfl ?_
        refine zzS 22 (some 73) rfl ?_
        refine zzS 23 (some 74) rfl ?_
        refine zzS 24 (some 75) rfl ?_
        refine zzS 25 (some 76) rfl ?_
        refine zzS 26 (some 77) rfl ?_
        refine zzA 27 (.bool false) (some 78) rfl (fun _ => ex_pick _ _ _ false (undef) (.bool false) rfl (by kernel_rfl) (by kernel_rfl) (by kernel_rfl)) ?_
        refine wpAny_done (by kernel_rfl) ?_ _
        simp only [Act.put, List.setIfInBounds_toArray, List.set_cons_zero, List.set_cons_succ]
        have HRE : Hid (w4.drew.rowIs N 4 (s.size + 1) (fun j => .bool (if j < 0 + 1 then advF x s g j else false))) := HR1.out.congr fun j hj => by
                  by_cases h : j = 0
                  ·rw [if_pos h, if_pos (by omega), h, HVE.out]
                  ·rw [if_neg h, if_neg (by omega), if_neg (by omega)]
        go_wp2_with fail
        go_roundg (s.size + 1 - (0 + 1))
        case measure => omega
        case rel => exact ⟨0 + 1, by omega, by go_num, HRE.out, HG1.out.drew, HA1.out, HB1.out.drew, Nat.le_refl _⟩
       ·have hms : m < s.size := by omega
        have hmsi : (m : Int) < (s.size : Int) := by omega
        have hm0 : (0 : Int) ≤ (m : Int) := by omega
        have hc1 : ((m + 1 : Nat) : Int) = (m : Int) + 1 := by omega
        rw [hc1]
        have HLD := Lib.hid (run_loadAt_mid (P := Tryz.prog) w4.drew q 0 107 (atC x) _ (at_range HA1.out) hu rfl (by rw [hi, atC_len]))
        have HGT : Hid (∀ w, (do eqGuard .gtr 3 (.tmp 51) (.const (.int .i64 0)) (.int .i64 ((m : Int) + 1)) (.int .i64 0); Go.binOp .gtr 3 (.int .i64 ((m : Int) + 1)) (.int .i64 0) : Sem Value).run Tryz.prog w = .ok (.bool true) w) := by
                  have h1 : (0 : Int) < (m : Int) + 1 := by omega
                  show ∀ w, _ = _
                  intro w
                  go_simp
        have HSB : Hid (∀ {x y : Operand} (w : World), (do eqGuard .sub 3 x y (.int .i64 ((m : Int) + 1)) (.int .i64 1); Go.binOp .sub 3 (.int .i64 ((m : Int) + 1)) (.int .i64 1) : Sem Value).run Tryz.prog w = .ok (.int .i64 m) w) := by
                  show ∀ (x y : Operand) (w : World), _ = _
                  intro x y w
                  go_simp
                  rw [IntKind.wrap_i64]
                  omega
        have HIX : Hid (∀ w, (Instr.index 9 (.string s) (.int .i64 m)).run Tryz.prog w = .ok (.int .u8 (s[m].toNat)) w) := by
                  show ∀ w, _ = _
                  intro w
                  go_simp
        have hmi2 : (m : Int) < (s.size : Int) + 1 := by omega
        have HIB : Hid (∀ w, (Instr.indexAt 134 (.slice (some ⟨b, 0, none⟩) (s.size + 1) (s.size + 1)) (.int .i64 m)).run Tryz.prog w = .ok (.pointer (some ⟨b, m, none⟩)) w) := by
                  show ∀ w, _ = _
                  intro w
                  go_simp
        have HIN : Hid (∀ w, (Instr.indexAt 134 (.slice (some ⟨N, 0, none⟩) (s.size + 1) (s.size + 1)) (.int .i64 m)).run Tryz.prog w = .ok (.pointer (some ⟨N, m, none⟩)) w) := by
                  show ∀ w, _ = _
                  intro w
                  go_simp
        have HV : Hid (advF x s g (m + 1) = (false || (x.p (s[m].toNat) && (g m || (x.many && advF x s g m))))) := by
                  show _ = _
                  rw [adv_own, HBI.out, bt_get s m hms]
        have HC0 := Lib.hid (fun w => contains_any x (s[m].toNat) w (UInt8.toNat_lt _))
        have HR4 : Hid (w4.drew.rowIs N 4 (s.size + 1) (fun j => .bool (if j = m + 1 then false else if j < m + 1 then advF x s g j else false))) := HR1.out
        have HG4 : Hid (w4.drew.rowIs b 4 (s.size + 1) (fun j => .bool (g j))) := HG1.out
        have HA4 : Hid (AtIn w4.drew q x) := HA1.out
        have HB4 : Hid (Below w.heap.size w w4.drew) := HB1.out.drew
        have hq4 : q < w4.drew.heap.size := (Array.getElem?_eq_some_iff.1 HA1.out).1
        have hN5 : N < w4.drew.heap.size := hN4
        clear HR1 HG1 HA1 HB1 hN4
        cases hpx : x.p (s[m].toNat) with
        | false =>
          rw [hpx] at HV
          have HC := HC0
          rw [hpx] at HC
          have HVE : Hid (advF x s g (m + 1) = false) := by
           show _ = _
           rw [HV.out]
           exact Bool.or_false _
          refine wp_region_at 28 #[false, false, false, false, false, false, false, false, false, false, false, false, false, false, false, false, false, false, false, false, false, false, false, false, false, false, false, false] rfl rfl (by kernel_rfl) ?_
          refine zzM 0 (.int .i64 ((m : Int) + 1)) (some 51) rfl ?_
          refine zzA 1 (.bool true) (some 52) rfl (fun _ => ex_binOp .gtr 3 _ _ _ (.int .i64 ((m : Int) + 1)) (.int .i64 0) _ rfl (by kernel_rfl) (by kernel_rfl) (HGT.out _)) ?_
          refine zzM 2 (.bool true) (some 53) rfl ?_
          refine zzM 4 (.string s) (some 55) rfl ?_
          refine zzM 5 (.int .i64 ((m : Int) + 1)) (some 56) rfl ?_
          refine zzA 6 (.int .i64 m) (some 57) rfl (fun _ => ex_binOp .sub 3 _ _ _ (.int .i64 ((m : Int) + 1)) (.int .i64 1) _ rfl (by kernel_rfl) (by kernel_rfl) (HSB.out _)) ?_
          refine zzA 7 (.int .u8 (s[m].toNat)) (some 58) rfl (fun _ => ex_index 9 _ _ (.string s) (.int .i64 m) _ rfl (by kernel_rfl) (by kernel_rfl) (HIX.out _)) ?_
          refine wpAny_val 3 (some 54) (.agg (atC x).toArray) (by kernel_rfl) rfl rfl (by kernel_rfl) (ex_load 107 _ (.pointer (some ⟨q, 0, none⟩)) _ rfl (by kernel_rfl) (HLD.out)) ?_
          refine wpAny_call 8 (some 59) (by kernel_rfl) rfl rfl (by kernel_rfl) 152 (#[.agg (atC x).toArray, .int .u8 (s[m].toNat)]) (by go_simp) (HC.out _) ?_
          rintro e w7 ⟨rfl, hb7⟩
          refine ⟨_, rfl, ?_⟩
          have qa := (HG4.out.of_block (hb7.block _ HG4.out.lt)).cell (i := m) (by omega)
          have qn := (HR4.out.of_block (hb7.block _ HR4.out.lt)).cell (i := m) (by omega)
          have qy := (HA4.out.keep (hb7.block _ hq4)).many
          rw [if_neg (by omega), if_pos (by omega)] at qn
          have rf7 := (HR4.out.of_block (hb7.block _ HR4.out.lt)).frozen (m + 1)
          have r7 := (HR4.out.of_block (hb7.block _ HR4.out.lt)).cell (i := m + 1) hil
          rw [if_pos rfl] at r7
          change wpAny _ _ _ _ _ _ (Act.put _ (some 59) _) _
          refine zzA 9 (.bool false) (some 60) rfl (fun _ => ex_pick _ _ _ true (.bool false) (.bool false) rfl (by kernel_rfl) (by kernel_rfl) (by kernel_rfl)) ?_
          refine zzM 10 (.bool false) (some 61) rfl ?_
          refine zzS 11 (some 62) rfl ?_
          refine zzS 12 (some 63) rfl ?_
          refine zzS 13 (some 64) rfl ?_
          refine zzS 14 (some 65) rfl ?_
          refine zzS 15 (some 66) rfl ?_
          refine zzS 16 (some 67) rfl ?_
          refine zzS 17 (some 68) rfl ?_
          refine zzS 18 (some 69) rfl ?_
          refine zzS 19 (some 70) rfl ?_
          refine zzS 20 (some 71) rfl ?_
          refine zzS 21 (some 72) rfl ?_
          refine zzS 22 (some 73) rfl ?_
          refine zzS 23 (some 74) rfl ?_
          refine zzS 24 (some 75) rfl ?_
          refine zzS 25 (some 76) rfl ?_
          refine zzS 26 (some 77) rfl ?_
          refine zzA 27 (.bool false) (some 78) rfl (fun _ => ex_pick _ _ _ false (undef) (.bool false) rfl (by kernel_rfl) (by kernel_rfl) (by kernel_rfl)) ?_
          refine wpAny_done (by kernel_rfl) ?_ _
          simp only [Act.put, List.setIfInBounds_toArray, List.set_cons_zero, List.set_cons_succ]
          go_wp2_with fail
          have HR7 := Lib.hid (HR4.out.of_block (hb7.block _ HR4.out.lt))
          have HG7 := Lib.hid (HG4.out.of_block (hb7.block _ HG4.out.lt))
          have HA7 := Lib.hid (HA4.out.keep (hb7.block _ hq4))
          have HB7 := Lib.hid (HB4.out.trans (hb7.mono HB4.out.size))
          have HRE : Hid (w7.rowIs N 4 (s.size + 1) (fun j => .bool (if j < m + 1 + 1 then advF x s g j else false))) := HR7.out.congr fun j hj => by
           by_cases h : j = m + 1
           ·rw [if_pos h, if_pos (by omega), h, HVE.out]
           ·rw [if_neg h]
            by_cases h2 : j < m + 1
            ·rw [if_pos h2, if_pos (by omega)]
            ·rw [if_neg h2, if_neg (by omega)]
          go_roundg (s.size + 1 - (m + 1 + 1))
          case measure => omega
          case rel => exact ⟨m + 1 + 1, by omega, by go_num, HRE.out, HG7.out, HA7.out, HB7.out, Nat.le_refl _⟩
        | true =>
          rw [hpx] at HV
          have HC := HC0
          rw [hpx] at HC
          cases hfi : g m with
          | true =>
            rw [hfi] at HV
            have HVE : Hid (advF x s g (m + 1) = true) := by
             show _ = _
             rw [HV.out]
             exact Bool.or_true _
            refine wp_region_at 28 #[false, false, false, false, false, false, false, false, false, false, false, false, false, false, false, false, false, false, false, false, false, false, false, false, false, false, false, false] rfl rfl (by kernel_rfl) ?_
            refine zzM 0 (.int .i64 ((m : Int) + 1)) (some 51) rfl ?_
            refine zzA 1 (.bool true) (some 52) rfl (fun _ => ex_binOp .gtr 3 _ _ _ (.int .i64 ((m : Int) + 1)) (.int .i64 0) _ rfl (by kernel_rfl) (by kernel_rfl) (HGT.out _)) ?_
            refine zzM 2 (.bool true) (some 53) rfl ?_
            refine zzM 4 (.string s) (some 55) rfl ?_
            refine zzM 5 (.int .i64 ((m : Int) + 1)) (some 56) rfl ?_
            refine zzA 6 (.int .i64 m) (some 57) rfl (fun _ => ex_binOp .sub 3 _ _ _ (.int .i64 ((m : Int) + 1)) (.int .i64 1) _ rfl (by kernel_rfl) (by kernel_rfl) (HSB.out _)) ?_
            refine zzA 7 (.int .u8 (s[m].toNat)) (some 58) rfl (fun _ => ex_index 9 _ _ (.string s) (.int .i64 m) _ rfl (by kernel_rfl) (by kernel_rfl) (HIX.out _)) ?_
            refine wpAny_val 3 (some 54) (.agg (atC x).toArray) (by kernel_rfl) rfl rfl (by kernel_rfl) (ex_load 107 _ (.pointer (some ⟨q, 0, none⟩)) _ rfl (by kernel_rfl) (HLD.out)) ?_
            refine wpAny_call 8 (some 59) (by kernel_rfl) rfl rfl (by kernel_rfl) 152 (#[.agg (atC x).toArray, .int .u8 (s[m].toNat)]) (by go_simp) (HC.out _) ?_
            rintro e w7 ⟨rfl, hb7⟩
            refine ⟨_, rfl, ?_⟩
            have qa := (HG4.out.of_block (hb7.block _ HG4.out.lt)).cell (i := m) (by omega)
            have qn := (HR4.out.of_block (hb7.block _ HR4.out.lt)).cell (i := m) (by omega)
            have qy := (HA4.out.keep (hb7.block _ hq4)).many
            rw [if_neg (by omega), if_pos (by omega)] at qn
            rw [hfi] at qa
            have rf7 := (HR4.out.of_block (hb7.block _ HR4.out.lt)).frozen (m + 1)
            have r7 := (HR4.out.of_block (hb7.block _ HR4.out.lt)).cell (i := m + 1) hil
            rw [if_pos rfl] at r7
            change wpAny _ _ _ _ _ _ (Act.put _ (some 59) _) _
            refine zzA 9 (.bool true) (some 60) rfl (fun _ => ex_pick _ _ _ true (.bool true) (.bool false) rfl (by kernel_rfl) (by kernel_rfl) (by kernel_rfl)) ?_
            refine zzM 10 (.bool true) (some 61) rfl ?_
            refine zzM 11 (.slice (some ⟨b, 0, none⟩) (s.size + 1) (s.size + 1)) (some 62) rfl ?_
            refine zzM 12 (.int .i64 ((m : Int) + 1)) (some 63) rfl ?_
            refine zzA 13 (.int .i64 m) (some 64) rfl (fun _ => ex_binOp .sub 3 _ _ _ (.int .i64 ((m : Int) + 1)) (.int .i64 1) _ rfl (by kernel_rfl) (by kernel_rfl) (HSB.out _)) ?_
            refine zzA 14 (.pointer (some ⟨b, m, none⟩)) (some 65) rfl (fun _ => ex_indexAddr 134 _ _ (.slice (some ⟨b, 0, none⟩) (s.size + 1) (s.size + 1)) (.int .i64 m) _ rfl (by kernel_rfl) (by kernel_rfl) (HIB.out _)) ?_
            refine wpAny_val 15 (some 66) (.bool true) (by kernel_rfl) rfl rfl (by kernel_rfl) (ex_load 4 _ (.pointer (some ⟨b, m, none⟩)) _ rfl (by kernel_rfl) (by go_simp)) ?_
            refine zzM 16 (.bool true) (some 67) rfl ?_
            refine zzS 17 (some 68) rfl ?_
            refine zzS 18 (some 69) rfl ?_
            refine zzS 19 (some 70) rfl ?_
            refine zzS 20 (some 71) rfl ?_
            refine zzS 21 (some 72) rfl ?_
            refine zzS 22 (some 73) rfl ?_
            refine zzS 23 (some 74) rfl ?_
            refine zzS 24 (some 75) rfl ?_
            refine zzS 25 (some 76) rfl ?_
            refine zzA 26 (.bool true) (some 77) rfl (fun _ => ex_pick _ _ _ true (.bool true) (undef) rfl (by kernel_rfl) (by kernel_rfl) (by kernel_rfl)) ?_
            refine zzA 27 (.bool true) (some 78) rfl (fun _ => ex_pick _ _ _ true (.bool true) (.bool false) rfl (by kernel_rfl) (by kernel_rfl) (by kernel_rfl)) ?_
            refine wpAny_done (by kernel_rfl) ?_ _
            simp only [Act.put, List.setIfInBounds_toArray, List.set_cons_zero, List.set_cons_succ]
            go_wp2_with fail
            have HR7 := Lib.hid (HR4.out.of_block (hb7.block _ HR4.out.lt))
            have HG7 := Lib.hid (HG4.out.of_block (hb7.block _ HG4.out.lt))
            have HA7 := Lib.hid (HA4.out.keep (hb7.block _ hq4))
            have HB7 := Lib.hid (HB4.out.trans (hb7.mono HB4.out.size))
            have HRE : Hid ((w7.setCell ⟨N, m + 1, none⟩ (.bool true)).rowIs N 4 (s.size + 1) (fun j => .bool (if j < m + 1 + 1 then advF x s g j else false))) := (HR7.out.set (m + 1) (.bool true)).congr fun j hj => by
             by_cases h : j = m + 1
             ·rw [if_pos h, if_pos (by omega), h, HVE.out]
             ·rw [if_neg h, if_neg h]
              by_cases h2 : j < m + 1
              ·rw [if_pos h2, if_pos (by omega)]
              ·rw [if_neg h2, if_neg (by omega)]
            go_roundg (s.size + 1 - (m + 1 + 1))
            case measure => omega
            case rel => exact ⟨m + 1 + 1, by omega, by go_num, HRE.out, HG7.out.of_block (Below.heap_setCell _ _ _ _ (show b ≠ N by omega)), HA7.out.keep (Below.heap_setCell _ _ _ _ (show q ≠ N by omega)), HB7.out.setCell (p := ⟨N, m + 1, none⟩) (show w.heap.size ≤ N by omega) _, Nat.le_refl _⟩
          | false =>
            rw [hfi] at HV
            cases hmm : x.many with
            | false =>
              rw [hmm] at HV
              have HVE : Hid (advF x s g (m + 1) = false) := by
                  show _ = _
                  rw [HV.out]
                  exact Bool.or_false _
              refine wp_region_at 28 #[false, false, false, false, false, false, false, false, false, false, false, false, false, false, false, false, false, false, false, false, false, false, false, false, false, false, false, false] rfl rfl (by kernel_rfl) ?_
              refine zzM 0 (.int .i64 ((m : Int) + 1)) (some 51) rfl ?_
              refine zzA 1 (.bool true) (some 52) rfl (fun _ => ex_binOp .gtr 3 _ _ _ (.int .i64 ((m : Int) + 1)) (.int .i64 0) _ rfl (by kernel_rfl) (by kernel_rfl) (HGT.out _)) ?_
              refine zzM 2 (.bool true) (some 53) rfl ?_
              refine zzM 4 (.string s) (some 55) rfl ?_
              refine zzM 5 (.int .i64 ((m : Int) + 1)) (some 56) rfl ?_
              refine zzA 6 (.int .i64 m) (some 57) rfl (fun _ => ex_binOp .sub 3 _ _ _ (.int .i64 ((m : Int) + 1)) (.int .i64 1) _ rfl (by kernel_rfl) (by kernel_rfl) (HSB.out _)) ?_
              refine zzA 7 (.int .u8 (s[m].toNat)) (some 58) rfl (fun _ => ex_index 9 _ _ (.string s) (.int .i64 m) _ rfl (by kernel_rfl) (by kernel_rfl) (HIX.out _)) ?_
              refine wpAny_val 3 (some 54) (.agg (atC x).toArray) (by kernel_rfl) rfl rfl (by kernel_rfl) (ex_load 107 _ (.pointer (some ⟨q, 0, none⟩)) _ rfl (by kernel_rfl) (HLD.out)) ?_
              refine wpAny_call 8 (some 59) (by kernel_rfl) rfl rfl (by kernel_rfl) 152 (#[.agg (atC x).toArray, .int .u8 (s[m].toNat)]) (by go_simp) (HC.out _) ?_
              rintro e w7 ⟨rfl, hb7⟩
              refine ⟨_, rfl, ?_⟩
              have qa := (HG4.out.of_block (hb7.block _ HG4.out.lt)).cell (i := m) (by omega)
              have qn := (HR4.out.of_block (hb7.block _ HR4.out.lt)).cell (i := m) (by omega)
              have qy := (HA4.out.keep (hb7.block _ hq4)).many
              rw [if_neg (by omega), if_pos (by omega)] at qn
              rw [hfi] at qa
              rw [hmm] at qy
              have rf7 := (HR4.out.of_block (hb7.block _ HR4.out.lt)).frozen (m + 1)
              have r7 := (HR4.out.of_block (hb7.block _ HR4.out.lt)).cell (i := m + 1) hil
              rw [if_pos rfl] at r7
              change wpAny _ _ _ _ _ _ (Act.put _ (some 59) _) _
              refine zzA 9 (.bool true) (some 60) rfl (fun _ => ex_pick _ _ _ true (.bool true) (.bool false) rfl (by kernel_rfl) (by kernel_rfl) (by kernel_rfl)) ?_
              refine zzM 10 (.bool true) (some 61) rfl ?_
              refine zzM 11 (.slice (some ⟨b, 0, none⟩) (s.size + 1) (s.size + 1)) (some 62) rfl ?_
              refine zzM 12 (.int .i64 ((m : Int) + 1)) (some 63) rfl ?_
              refine zzA 13 (.int .i64 m) (some 64) rfl (fun _ => ex_binOp .sub 3 _ _ _ (.int .i64 ((m : Int) + 1)) (.int .i64 1) _ rfl (by kernel_rfl) (by kernel_rfl) (HSB.out _)) ?_
              refine zzA 14 (.pointer (some ⟨b, m, none⟩)) (some 65) rfl (fun _ => ex_indexAddr 134 _ _ (.slice (some ⟨b, 0, none⟩) (s.size + 1) (s.size + 1)) (.int .i64 m) _ rfl (by kernel_rfl) (by kernel_rfl) (HIB.out _)) ?_
              refine wpAny_val 15 (some 66) (.bool false) (by kernel_rfl) rfl rfl (by kernel_rfl) (ex_load 4 _ (.pointer (some ⟨b, m, none⟩)) _ rfl (by kernel_rfl) (by go_simp)) ?_
              refine zzM 16 (.bool false) (some 67) rfl ?_
              refine zzA 17 (.pointer (some ⟨q, 33, none⟩)) (some 68) rfl (fun _ => ex_fieldAddr 107 _ 2 (.pointer (some ⟨q, 0, none⟩)) _ rfl (by kernel_rfl) (by go_simp)) ?_
              refine wpAny_val 18 (some 69) (.bool false) (by kernel_rfl) rfl rfl (by kernel_rfl) (ex_load 4 _ (.pointer (some ⟨q, 33, none⟩)) _ rfl (by kernel_rfl) (by go_simp)) ?_
              refine zzM 19 (.bool false) (some 70) rfl ?_
              refine zzS 20 (some 71) rfl ?_
              refine zzS 21 (some 72) rfl ?_
              refine zzS 22 (some 73) rfl ?_
              refine zzS 23 (some 74) rfl ?_
              refine zzS 24 (some 75) rfl ?_
              refine zzA 25 (.bool false) (some 76) rfl (fun _ => ex_pick _ _ _ false (undef) (.bool false) rfl (by kernel_rfl) (by kernel_rfl) (by kernel_rfl)) ?_
              refine zzA 26 (.bool false) (some 77) rfl (fun _ => ex_pick _ _ _ false (.bool true) (.bool false) rfl (by kernel_rfl) (by kernel_rfl) (by kernel_rfl)) ?_
              refine zzA 27 (.bool false) (some 78) rfl (fun _ => ex_pick _ _ _ true (.bool false) (.bool false) rfl (by kernel_rfl) (by kernel_rfl) (by kernel_rfl)) ?_
              refine wpAny_done (by kernel_rfl) ?_ _
              simp only [Act.put, List.setIfInBounds_toArray, List.set_cons_zero, List.set_cons_succ]
              go_wp2_with fail
              have HR7 := Lib.hid (HR4.out.of_block (hb7.block _ HR4.out.lt))
              have HG7 := Lib.hid (HG4.out.of_block (hb7.block _ HG4.out.lt))
              have HA7 := Lib.hid (HA4.out.keep (hb7.block _ hq4))
              have HB7 := Lib.hid (HB4.out.trans (hb7.mono HB4.out.size))
              have HRE : Hid (w7.rowIs N 4 (s.size + 1) (fun j => .bool (if j < m + 1 + 1 then advF x s g j else false))) := HR7.out.congr fun j hj => by
                  by_cases h : j = m + 1
                  ·rw [if_pos h, if_pos (by omega), h, HVE.out]
                  ·rw [if_neg h]
                   by_cases h2 : j < m + 1
                   ·rw [if_pos h2, if_pos (by omega)]
                   ·rw [if_neg h2, if_neg (by omega)]
              go_roundg (s.size + 1 - (m + 1 + 1))
              case measure => omega
              case rel => exact ⟨m + 1 + 1, by omega, by go_num, HRE.out, HG7.out, HA7.out, HB7.out, Nat.le_refl _⟩
            | true =>
              rw [hmm] at HV
              cases hni : advF x s g m with
              | true =>
                rw [hni] at HV
                have HVE : Hid (advF x s g (m + 1) = true) := by
                 show _ = _
                 rw [HV.out]
                 exact Bool.or_true _
                refine wp_region_at 28 #[false, false, false, false, false, false, false, false, false, false, false, false, false, false, false, false, false, false, false, false, false, false, false, false, false, false, false, false] rfl rfl (by kernel_rfl) ?_
                refine zzM 0 (.int .i64 ((m : Int) + 1)) (some 51) rfl ?_
                refine zzA 1 (.bool true) (some 52) rfl (fun _ => ex_binOp .gtr 3 _ _ _ (.int .i64 ((m : Int) + 1)) (.int .i64 0) _ rfl (by kernel_rfl) (by kernel_rfl) (HGT.out _)) ?_
                refine zzM 2 (.bool true) (some 53) rfl ?_
                refine zzM 4 (.string s) (some 55) rfl ?_
                refine zzM 5 (.int .i64 ((m : Int) + 1)) (some 56) rfl ?_
                refine zzA 6 (.int .i64 m) (some 57) rfl (fun _ => ex_binOp .sub 3 _ _ _ (.int .i64 ((m : Int) + 1)) (.int .i64 1) _ rfl (by kernel_rfl) (by kernel_rfl) (HSB.out _)) ?_
                refine zzA 7 (.int .u8 (s[m].toNat)) (some 58) rfl (fun _ => ex_index 9 _ _ (.string s) (.int .i64 m) _ rfl (by kernel_rfl) (by kernel_rfl) (HIX.out _)) ?_
                refine wpAny_val 3 (some 54) (.agg (atC x).toArray) (by kernel_rfl) rfl rfl (by kernel_rfl) (ex_load 107 _ (.pointer (some ⟨q, 0, none⟩)) _ rfl (by kernel_rfl) (HLD.out)) ?_
                refine wpAny_call 8 (some 59) (by kernel_rfl) rfl rfl (by kernel_rfl) 152 (#[.agg (atC x).toArray, .int .u8 (s[m].toNat)]) (by go_simp) (HC.out _) ?_
                rintro e w7 ⟨rfl, hb7⟩
                refine ⟨_, rfl, ?_⟩
                have qa := (HG4.out.of_block (hb7.block _ HG4.out.lt)).cell (i := m) (by omega)
                have qn := (HR4.out.of_block (hb7.block _ HR4.out.lt)).cell (i := m) (by omega)
                have qy := (HA4.out.keep (hb7.block _ hq4)).many
                rw [if_neg (by omega), if_pos (by omega)] at qn
                rw [hfi] at qa
                rw [hmm] at qy
                rw [hni] at qn
                have rf7 := (HR4.out.of_block (hb7.block _ HR4.out.lt)).frozen (m + 1)
                have r7 := (HR4.out.of_block (hb7.block _ HR4.out.lt)).cell (i := m + 1) hil
                rw [if_pos rfl] at r7
                change wpAny _ _ _ _ _ _ (Act.put _ (some 59) _) _
                refine zzA 9 (.bool true) (some 60) rfl (fun _ => ex_pick _ _ _ true (.bool true) (.bool false) rfl (by kernel_rfl) (by kernel_rfl) (by kernel_rfl)) ?_
                refine zzM 10 (.bool true) (some 61) rfl ?_
                refine zzM 11 (.slice (some ⟨b, 0, none⟩) (s.size + 1) (s.size + 1)) (some 62) rfl ?_
                refine zzM 12 (.int .i64 ((m : Int) + 1)) (some 63) rfl ?_
                refine zzA 13 (.int .i64 m) (some 64) rfl (fun _ => ex_binOp .sub 3 _ _ _ (.int .i64 ((m : Int) + 1)) (.int .i64 1) _ rfl (by kernel_rfl) (by kernel_rfl) (HSB.out _)) ?_
                refine zzA 14 (.pointer (some ⟨b, m, none⟩)) (some 65) rfl (fun _ => ex_indexAddr 134 _ _ (.slice (some ⟨b, 0, none⟩) (s.size + 1) (s.size + 1)) (.int .i64 m) _ rfl (by kernel_rfl) (by kernel_rfl) (HIB.out _)) ?_
                refine wpAny_val 15 (some 66) (.bool false) (by kernel_rfl) rfl rfl (by kernel_rfl) (ex_load 4 _ (.pointer (some ⟨b, m, none⟩)) _ rfl (by kernel_rfl) (by go_simp)) ?_
                refine zzM 16 (.bool false) (some 67) rfl ?_
                refine zzA 17 (.pointer (some ⟨q, 33, none⟩)) (some 68) rfl (fun _ => ex_fieldAddr 107 _ 2 (.pointer (some ⟨q, 0, none⟩)) _ rfl (by kernel_rfl) (by go_simp)) ?_
                refine wpAny_val 18 (some 69) (.bool true) (by kernel_rfl) rfl rfl (by kernel_rfl) (ex_load 4 _ (.pointer (some ⟨q, 33, none⟩)) _ rfl (by kernel_rfl) (by go_simp)) ?_
                refine zzM 19 (.bool true) (some 70) rfl ?_
                refine zzM 20 (.slice (some ⟨N, 0, none⟩) (s.size + 1) (s.size + 1)) (some 71) rfl ?_
                refine zzM 21 (.int .i64 ((m : Int) + 1)) (some 72) rfl ?_
                refine zzA 22 (.int .i64 m) (some 73) rfl (fun _ => ex_binOp .sub 3 _ _ _ (.int .i64 ((m : Int) + 1)) (.int .i64 1) _ rfl (by kernel_rfl) (by kernel_rfl) (HSB.out _)) ?_
                refine zzA 23 (.pointer (some ⟨N, m, none⟩)) (some 74) rfl (fun _ => ex_indexAddr 134 _ _ (.slice (some ⟨N, 0, none⟩) (s.size + 1) (s.size + 1)) (.int .i64 m) _ rfl (by kernel_rfl) (by kernel_rfl) (HIN.out _)) ?_
                refine wpAny_val 24 (some 75) (.bool true) (by kernel_rfl) rfl rfl (by kernel_rfl) (ex_load 4 _ (.pointer (some ⟨N, m, none⟩)) _ rfl (by kernel_rfl) (by go_simp)) ?_
                refine zzA 25 (.bool true) (some 76) rfl (fun _ => ex_pick _ _ _ true (.bool true) (.bool false) rfl (by kernel_rfl) (by kernel_rfl) (by kernel_rfl)) ?_
                refine zzA 26 (.bool true) (some 77) rfl (fun _ => ex_pick _ _ _ false (.bool true) (.bool true) rfl (by kernel_rfl) (by kernel_rfl) (by kernel_rfl)) ?_
                refine zzA 27 (.bool true) (some 78) rfl (fun _ => ex_pick _ _ _ true (.bool true) (.bool false) rfl (by kernel_rfl) (by kernel_rfl) (by kernel_rfl)) ?_
                refine wpAny_done (by kernel_rfl) ?_ _
                simp only [Act.put, List.setIfInBounds_toArray, List.set_cons_zero, List.set_cons_succ]
                go_wp2_with fail
                have HR7 := Lib.hid (HR4.out.of_block (hb7.block _ HR4.out.lt))
                have HG7 := Lib.hid (HG4.out.of_block (hb7.block _ HG4.out.lt))
                have HA7 := Lib.hid (HA4.out.keep (hb7.block _ hq4))
                have HB7 := Lib.hid (HB4.out.trans (hb7.mono HB4.out.size))
                have HRE : Hid ((w7.setCell ⟨N, m + 1, none⟩ (.bool true)).rowIs N 4 (s.size + 1) (fun j => .bool (if j < m + 1 + 1 then advF x s g j else false))) := (HR7.out.set (m + 1) (.bool true)).congr fun j hj => by
                 by_cases h : j = m + 1
                 ·rw [if_pos h, if_pos (by omega), h, HVE.out]
                 ·rw [if_neg h, if_neg h]
                  by_cases h2 : j < m + 1
                  ·rw [if_pos h2, if_pos (by omega)]
                  ·rw [if_neg h2, if_neg (by omega)]
                go_roundg (s.size + 1 - (m + 1 + 1))
                case measure => omega
                case rel => exact ⟨m + 1 + 1, by omega, by go_num, HRE.out, HG7.out.of_block (Below.heap_setCell _ _ _ _ (show b ≠ N by omega)), HA7.out.keep (Below.heap_setCell _ _ _ _ (show q ≠ N by omega)), HB7.out.setCell (p := ⟨N, m + 1, none⟩) (show w.heap.size ≤ N by omega) _, Nat.le_refl _⟩
              | false =>
                rw [hni] at HV
                have HVE : Hid (advF x s g (m + 1) = false) := by
                 show _ = _
                 rw [HV.out]
                 exact Bool.or_false _
                refine wp_region_at 28 #[false, false, false, false, false, false, false, false, false, false, false, false, false, false, false, false, false, false, false, false, false, false, false, false, false, false, false, false] rfl rfl (by kernel_rfl) ?_
                refine zzM 0 (.int .i64 ((m : Int) + 1)) (some 51) rfl ?_
                refine zzA 1 (.bool true) (some 52) rfl (fun _ => ex_binOp .gtr 3 _ _ _ (.int .i64 ((m : Int) + 1)) (.int .i64 0) _ rfl (by kernel_rfl) (by kernel_rfl) (HGT.out _)) ?_
                refine zzM 2 (.bool true) (some 53) rfl ?_
                refine zzM 4 (.string s) (some 55) rfl ?_
                refine zzM 5 (.int .i64 ((m : Int) + 1)) (some 56) rfl ?_
                refine zzA 6 (.int .i64 m) (some 57) rfl (fun _ => ex_binOp .sub 3 _ _ _ (.int .i64 ((m : Int) + 1)) (.int .i64 1) _ rfl (by kernel_rfl) (by kernel_rfl) (HSB.out _)) ?_
                refine zzA 7 (.int .u8 (s[m].toNat)) (some 58) rfl (fun _ => ex_index 9 _ _ (.string s) (.int .i64 m) _ rfl (by kernel_rfl) (by kernel_rfl) (HIX.out _)) ?_
                refine wpAny_val 3 (some 54) (.agg (atC x).toArray) (by kernel_rfl) rfl rfl (by kernel_rfl) (ex_load 107 _ (.pointer (some ⟨q, 0, none⟩)) _ rfl (by kernel_rfl) (HLD.out)) ?_
                refine wpAny_call 8 (some 59) (by kernel_rfl) rfl rfl (by kernel_rfl) 152 (#[.agg (atC x).toArray, .int .u8 (s[m].toNat)]) (by go_simp) (HC.out _) ?_
                rintro e w7 ⟨rfl, hb7⟩
                refine ⟨_, rfl, ?_⟩
                have qa := (HG4.out.of_block (hb7.block _ HG4.out.lt)).cell (i := m) (by omega)
                have qn := (HR4.out.of_block (hb7.block _ HR4.out.lt)).cell (i := m) (by omega)
                have qy := (HA4.out.keep (hb7.block _ hq4)).many
                rw [if_neg (by omega), if_pos (by omega)] at qn
                rw [hfi] at qa
                rw [hmm] at qy
                rw [hni] at qn
                have rf7 := (HR4.out.of_block (hb7.block _ HR4.out.lt)).frozen (m + 1)
                have r7 := (HR4.out.of_block (hb7.block _ HR4.out.lt)).cell (i := m + 1) hil
                rw [if_pos rfl] at r7
                change wpAny _ _ _ _ _ _ (Act.put _ (some 59) _) _
                refine zzA 9 (.bool true) (some 60) rfl (fun _ => ex_pick _ _ _ true (.bool true) (.bool false) rfl (by kernel_rfl) (by kernel_rfl) (by kernel_rfl)) ?_
                refine zzM 10 (.bool true) (some 61) rfl ?_
                refine zzM 11 (.slice (some ⟨b, 0, none⟩) (s.size + 1) (s.size + 1)) (some 62) rfl ?_
                refine zzM 12 (.int .i64 ((m : Int) + 1)) (some 63) rfl ?_
                refine zzA 13 (.int .i64 m) (some 64) rfl (fun _ => ex_binOp .sub 3 _ _ _ (.int .i64 ((m : Int) + 1)) (.int .i64 1) _ rfl (by kernel_rfl) (by kernel_rfl) (HSB.out _)) ?_
                refine zzA 14 (.pointer (some ⟨b, m, none⟩)) (some 65) rfl (fun _ => ex_indexAddr 134 _ _ (.slice (some ⟨b, 0, none⟩) (s.size + 1) (s.size + 1)) (.int .i64 m) _ rfl (by kernel_rfl) (by kernel_rfl) (HIB.out _)) ?_
                refine wpAny_val 15 (some 66) (.bool false) (by kernel_rfl) rfl rfl (by kernel_rfl) (ex_load 4 _ (.pointer (some ⟨b, m, none⟩)) _ rfl (by kernel_rfl) (by go_simp)) ?_
                refine zzM 16 (.bool false) (some 67) rfl ?_
                refine zzA 17 (.pointer (some ⟨q, 33, none⟩)) (some 68) rfl (fun _ => ex_fieldAddr 107 _ 2 (.pointer (some ⟨q, 0, none⟩)) _ rfl (by kernel_rfl) (by go_simp)) ?_
                refine wpAny_val 18 (some 69) (.bool true) (by kernel_rfl) rfl rfl (by kernel_rfl) (ex_load 4 _ (.pointer (some ⟨q, 33, none⟩)) _ rfl (by kernel_rfl) (by go_simp)) ?_
                refine zzM 19 (.bool true) (some 70) rfl ?_
                refine zzM 20 (.slice (some ⟨N, 0, none⟩) (s.size + 1) (s.size + 1)) (some 71) rfl ?_
                refine zzM 21 (.int .i64 ((m : Int) + 1)) (some 72) rfl ?_
                refine zzA 22 (.int .i64 m) (some 73) rfl (fun _ => ex_binOp .sub 3 _ _ _ (.int .i64 ((m : Int) + 1)) (.int .i64 1) _ rfl (by kernel_rfl) (by kernel_rfl) (HSB.out _)) ?_
                refine zzA 23 (.pointer (some ⟨N, m, none⟩)) (some 74) rfl (fun _ => ex_indexAddr 134 _ _ (.slice (some ⟨N, 0, none⟩) (s.size + 1) (s.size + 1)) (.int .i64 m) _ rfl (by kernel_rfl) (by kernel_rfl) (HIN.out _)) ?_
                refine wpAny_val 24 (some 75) (.bool false) (by kernel_rfl) rfl rfl (by kernel_rfl) (ex_load 4 _ (.pointer (some ⟨N, m, none⟩)) _ rfl (by kernel_rfl) (by go_simp)) ?_
                refine zzA 25 (.bool false) (some 76) rfl (fun _ => ex_pick _ _ _ true (.bool false) (.bool false) rfl (by kernel_rfl) (by kernel_rfl) (by kernel_rfl)) ?_
                refine zzA 26 (.bool false) (some 77) rfl (fun _ => ex_pick _ _ _ false (.bool true) (.bool false) rfl (by kernel_rfl) (by kernel_rfl) (by kernel_rfl)) ?_
                refine zzA 27 (.bool false) (some 78) rfl (fun _ => ex_pick _ _ _ true (.bool false) (.bool false) rfl (by kernel_rfl) (by kernel_rfl) (by kernel_rfl)) ?_
                refine wpAny_done (by kernel_rfl) ?_ _
                simp only [Act.put, List.setIfInBounds_toArray, List.set_cons_zero, List.set_cons_succ]
                go_wp2_with fail
                have HR7 := Lib.hid (HR4.out.of_block (hb7.block _ HR4.out.lt))
                have HG7 := Lib.hid (HG4.out.of_block (hb7.block _ HG4.out.lt))
                have HA7 := Lib.hid (HA4.out.keep (hb7.block _ hq4))
                have HB7 := Lib.hid (HB4.out.trans (hb7.mono HB4.out.size))
                have HRE : Hid (w7.rowIs N 4 (s.size + 1) (fun j => .bool (if j < m + 1 + 1 then advF x s g j else false))) := HR7.out.congr fun j hj => by
                 by_cases h : j = m + 1
                 ·rw [if_pos h, if_pos (by omega), h, HVE.out]
                 ·rw [if_neg h]
                  by_cases h2 : j < m + 1
                  ·rw [if_pos h2, if_pos (by omega)]
                  ·rw [if_neg h2, if_neg (by omega)]
                go_roundg (s.size + 1 - (m + 1 + 1))
                case measure => omega
                case rel => exact ⟨m + 1 + 1, by omega, by go_num, HRE.out, HG7.out, HA7.out, HB7.out, Nat.le_refl _⟩
     ·obtain rfl : i = s.size + 1 := by omega
      have hii : ¬ (((s.size + 1 : Nat)) : Int) < (s.size : Int) + 1 := by omega
      have HRE : Hid (wr.rowIs N 4 (s.size + 1) (fun j => .bool (advF x s g j))) := HR.out.congr fun j hj => by rw [if_pos hj]
      go_wp2_with fail
      go_roundg (l.length - (k + 1))
      case measure => omega
      case rel => exact ⟨k + 1, N, advF x s g, rfl, by go_num, by omega, by omega, HRE.out, HX2.out, HB.out, Nat.le_refl _⟩
   ·have hki2 : ¬ (k : Int) < (l.length : Int) := by omega
    have HE : Hid (g = R) := by
     have h := HX.out
     rw [List.drop_eq_nil_of_le (by omega)] at h
     exact h
    go_wp2_with fail
    go_ret
    rw [HE.out] at HG
    exact ⟨b, rfl, hbw, HG.out, HB.out⟩
end Go.Proofs.YtfkojnofbpdjdaaGreatDoor

namespace Go.Proofs.YtfkojnofbpdjdaaGreatDoor
set_option maxRecDepth 100000
open Go.RowKit
def RowA (w : World) (g n : Nat) (q : Nat → At) : Prop := g < w.heap.size ∧ ∀ t, t < n → w.rangeAt g (t * 34) (atC (q t)) ∧ w.there g (t * 34) 34
theorem RowA.congr {w : World} {g n : Nat} {q r : Nat → At} (h : RowA w g n q) (e : ∀ t, t < n → q t = r t) : RowA w g n r :=
 ⟨h.1, fun t ht => by rw [← e t ht]; exact h.2 t ht⟩
theorem RowA.drew {w : World} {g n : Nat} {q : Nat → At} (h : RowA w g n q) : RowA w.drew g n q := h
theorem setCells_size (g : Nat) : ∀ (vs : List Value) (o : Nat) (w : World), (w.setCells g o vs).heap.size = w.heap.size
 | [], _, _ => rfl
 | v :: r, o, w => by rw [World.setCells, setCells_size g r]; simp [World.setCell]
theorem below_setCells {B : Nat} {a : World} {g : Nat} (hg : B ≤ g) : ∀ (vs : List Value) (o : Nat) (w : World), Below B a w → Below B a (w.setCells g o vs)
 | [], _, _, h => h
 | v :: r, o, w, h => by rw [World.setCells]; exact below_setCells hg r _ _ (h.setCell (p := ⟨g, o, none⟩) hg v)
theorem RowA.set {w : World} {g n : Nat} {q : Nat → At} (h : RowA w g n q) (i : Nat) (hi : i < n) (x : At) : RowA (w.setCells g (i * 34) (atC x)) g n (fun t => if t = i then x else q t) :=
 ⟨by rw [setCells_size]; exact h.1, fun t ht => by
   refine ⟨?_, World.there_setCells (h.2 t ht).2 _ _ _⟩
   by_cases hti : t = i
   ·subst hti
    show (w.setCells g (t * 34) (atC x)).rangeAt g (t * 34) (atC (if t = t then x else q t))
    rw [if_pos rfl]
    exact World.rangeAt_setCells_same w g (t * 34) (atC x) (by rw [atC_len]; exact (h.2 t ht).2)
   ·show (w.setCells g (i * 34) (atC x)).rangeAt g (t * 34) (atC (if t = i then x else q t))
    rw [if_neg hti]
    refine World.rangeAt_setCells_apart (h.2 t ht).1 _ _ _ (.inr ?_)
    rw [atC_len, atC_len]
    omega⟩
def atAt (l : List At) (t : Nat) : At := l.getD t ⟨noP, 0, false⟩
theorem atAt_get (l : List At) (t : Nat) (h : t < l.length) : l[t]? = some (atAt l t) := by
 unfold atAt
 rw [List.getD_eq_getElem?_getD, List.getElem?_eq_getElem h]
 rfl
theorem RowA.of {w : World} {B g cap : Nat} {l : List At} (h : OwnE 107 atC 34 w B (.slice (some ⟨g, 0, none⟩) l.length cap) l) : RowA w g l.length (atAt l) ∧ B ≤ g := by
 obtain ⟨h0, h1 | ⟨g', cap', cur, hv, hbg, hg, hn, hm, hs, ht⟩⟩ := h
 ·exact absurd h1.1 (by simp)
 injection hv with e1 _ _
 injection e1 with e1
 injection e1 with e1 _ _
 subst e1
 refine ⟨⟨(Array.getElem?_eq_some_iff.1 hg).1, fun t ht2 => ?_⟩, hbg⟩
 have hlt : ∀ j, j < 34 → t * 34 + j < l.length * 34 := fun j hj => by
  have : (t + 1) * 34 ≤ l.length * 34 := Nat.mul_le_mul_right _ ht2
  omega
 have hcell : ∀ j, j < 34 → w.cell? ⟨g, t * 34 + j, none⟩ = (atC (atAt l t))[j]? := fun j hj => by
  rw [cell_of_row _ _ _ _ _ _ hg]
  have h2 := flat_get atC 34 atC_len l t j (atAt l t) (atAt_get l t ht2) hj
  rw [← h2, ← ht, List.getElem?_take_of_lt (hlt j hj)]
  simp
 refine ⟨fun j v hj => ?_, fun j hj => ⟨?_, frozen_of_row _ _ _ _ _ hg⟩⟩
 ·have hj34 : j < 34 := by rw [← atC_len (atAt l t)]; exact (List.getElem?_eq_some_iff.1 hj).1
  rw [hcell j hj34, hj]
 ·rw [hcell j hj, List.getElem?_eq_getElem (by rw [atC_len]; exact hj)]
  rfl
theorem RowA.rd {w : World} {g n c : Nat} {q : Nat → At} (h : RowA w g n q) (l : List At) (hl : l.length = n) (hc : n ≤ c) (hq : ∀ t x, l[t]? = some x → q t = x) : RdE atC 34 w (.slice (some ⟨g, 0, none⟩) n c) l := by
 subst hl
 refine ⟨some ⟨g, 0, none⟩, c, rfl, hc, (fun e => by cases e), fun _ => ⟨g, 0, rfl, h.1, fun i x j u hi hj => ?_⟩⟩
 have hin := (List.getElem?_eq_some_iff.1 hi).1
 have := (h.2 i hin).1 j u (by rw [hq i x hi]; exact hj)
 rw [Nat.zero_add]
 exact this
def mirr (n i : Nat) (L : Nat → At) (t : Nat) : At := if t < i ∨ n ≤ t + i then L (n - 1 - t) else L t
theorem mirr_zero (n : Nat) (L : Nat → At) : ∀ t, t < n → L t = mirr n 0 L t := fun t ht => by
 unfold mirr
 rw [if_neg (by omega)]
theorem mirr_step (n i j : Nat) (L : Nat → At) (hj : j + i + 1 = n) (hij : i < j) : ∀ t, t < n →
 (if t = j then mirr n i L i else if t = i then mirr n i L j else mirr n i L t) = mirr n (i + 1) L t := fun t ht => by
 unfold mirr
 by_cases h1 : t = j
 ·rw [if_pos h1, if_neg (show ¬ (i < i ∨ n ≤ i + i) by omega), if_pos (show t < i + 1 ∨ n ≤ t + (i + 1) by omega)]
  congr 1
  omega
 ·rw [if_neg h1]
  by_cases h2 : t = i
  ·rw [if_pos h2, if_neg (show ¬ (j < i ∨ n ≤ j + i) by omega), if_pos (show t < i + 1 ∨ n ≤ t + (i + 1) by omega)]
   congr 1
   omega
  ·rw [if_neg h2]
   by_cases h3 : t < i ∨ n ≤ t + i
   ·rw [if_pos h3, if_pos (show t < i + 1 ∨ n ≤ t + (i + 1) by omega)]
   ·rw [if_neg h3, if_neg (show ¬ (t < i + 1 ∨ n ≤ t + (i + 1)) by omega)]
theorem mirr_end (n i : Nat) (L : Nat → At) (h1 : n ≤ 2 * i + 1) : ∀ t, t < n → mirr n i L t = L (n - 1 - t) := fun t ht => by
 unfold mirr
 by_cases h3 : t < i ∨ n ≤ t + i
 ·rw [if_pos h3]
 ·rw [if_neg h3]
  congr 1
  omega
theorem rev_at (l : List At) (t : Nat) (x : At) (h : l.reverse[t]? = some x) : atAt l (l.length - 1 - t) = x := by
 have ht : t < l.length := by simpa using (List.getElem?_eq_some_iff.1 h).1
 rw [List.getElem?_reverse ht, atAt_get l (l.length - 1 - t) (by omega)] at h
 exact Option.some.inj h
def RetRd (w : World) (B : Nat) (l : List At) (e : Ending) (w' : World) : Prop := ∃ v, e = .returned v ∧ RdE atC 34 w' v l ∧ Below B w w'
def RetOwnA (w : World) (l : List At) (e : Ending) (w' : World) : Prop := ∃ v, e = .returned v ∧ OwnE 107 atC 34 w' w.heap.size v l ∧ Below w.heap.size w w'
theorem clone_any (l : List At) (v : Value) (w : World) (hp : RdE atC 34 w v l) (hl : l.length ≤ 140737488355) :
 Calls Tryz.prog 153 #[v] w (RetOwnA w l) := by
 obtain ⟨R, HRR⟩ : ∃ R, Hid (R = RetOwnA w l) := ⟨_, rfl⟩
 rw [← HRR.out]
 have q22 : ∀ (w : World) (a : Option Addr) (n c n' c' : Nat), (binOp .eql 108 (.slice a n c) (.slice none n' c')).run Tryz.prog w = .ok (.bool a.isNone) w := fun w a n c n' c' => Lib.run_eql_slice_nil w _ _ a n c n' c' Tryz.underlying108
 obtain ⟨A, c, rfl, hlc, hn⟩ := hp.shape
 have HP := Lib.hid hp
 clear hp
 rcases A with _ | ad
 ·have hc0 := hn rfl
  obtain rfl : l = [] := List.eq_nil_of_length_eq_zero (by omega)
  obtain rfl : c = 0 := hc0
  clear hn
  go_enter Tryz.func153, Tryz.ntmps153
  go_wp2_with fail
  rw [HRR.out]
  exact ⟨_, rfl, OwnE.nil, Below.refl _ _⟩
 ·clear hn
  have HO : Hid (OwnE 107 atC 34 (w.alloc (.cells #[] 107)) w.heap.size (.slice (some ⟨w.heap.size, 0, none⟩) 0 0) []) := World.ownsRow_made (base := w.heap.size) (e := 107) (size := 34) w #[] 0 (Nat.le_refl _) (by decide) rfl
  have HQ := Lib.hid (HP.out.alloc (.cells #[] 107))
  go_enter Tryz.func153, Tryz.ntmps153
  go_wp2_with (refine wpList_appE rfl (.tmp 5) (.tmp 6) 108 107 rfl Tryz.underlying108 _ atC 34 48 atom_info rfl (by decide) atC_len atC_one w.heap.size (.slice (some ⟨w.heap.size, 0, none⟩) 0 0) [] rfl HO.out _ l rfl HQ.out (by simp only [List.length_nil]; omega) (by decide) (by simp) ?_; intro v1 w1 hown1 hbel1 hgrow1)
  rw [HRR.out]
  exact ⟨v1, rfl, hown1, hbel1 w.heap.size w (Nat.le_refl _) ((Below.refl _ w).alloc (Nat.le_refl _) _)⟩
theorem turn_any (B g c n : Nat) (L : Nat → At) (w : World) (hr : RowA w g n L) (hB : B ≤ g) (hn : n ≤ 140737488355) :
 Calls Tryz.prog 154 #[.slice (some ⟨g, 0, none⟩) n c] w fun e w' => e = .returned (.tuple #[]) ∧ RowA w' g n (fun t => L (n - 1 - t)) ∧ Below B w w' := by
 have hu := Tryz.underlying107
 have hi : (Tryz.prog.info? 107).map (·.size) = some 34 := atom_size
 have HR0 := Lib.hid (hr.congr (mirr_zero n L))
 have HB0 := Lib.hid (Below.refl B w)
 clear hr
 go_enter Tryz.func154, Tryz.ntmps154
 go_wp2_with fail
 obtain ⟨wo, HW⟩ : ∃ wo : World, Hid (wo = w) := ⟨w, rfl⟩
 go_loopg [2, 3] (n + 1) (fun m iv jv wr => ∃ i : Nat, iv = .int .i64 i ∧ jv = .int .i64 ((n : Int) - 1 - i) ∧ 2 * i ≤ n ∧ Hid (RowA wr g n (mirr n i L)) ∧ Hid (Below B w wr) ∧ n - i ≤ m)
 case atStart => exact ⟨0, rfl, by simp, by omega, HR0.out, HB0.out, by omega⟩
 case round =>
  clear HR0 HB0
  obtain ⟨i, rfl, rfl, hi2, HR, HB, hm⟩ := hrel
  by_cases hlt : 2 * i + 1 < n
  ·have hlti : (i : Int) < (n : Int) - 1 - (i : Int) := by omega
   obtain ⟨j, hj⟩ : ∃ j, j + i + 1 = n := ⟨n - 1 - i, by omega⟩
   have hij : i < j := by omega
   have hin : (i : Int) < (n : Int) := by omega
   have hjn : (j : Int) < (n : Int) := by omega
   obtain ⟨k, hk⟩ : ∃ k : Int, k = (n : Int) - 1 - (i : Int) := ⟨_, rfl⟩
   rw [← hk] at hlti ⊢
   obtain rfl : k = (j : Int) := by omega
   clear hk
   have hji : (i : Int) < (j : Int) := by omega
   obtain ⟨q, HQ⟩ : ∃ q, Hid (q = mirr n i L) := ⟨_, rfl⟩
   have HST : Hid (∀ t, t < n → (if t = j then q i else if t = i then q j else q t) = mirr n (i + 1) L t) := by
    show _
    rw [HQ.out]
    exact mirr_step n i j L hj hij
   rw [← HQ.out] at HR
   clear HQ hlti
   have S1 : Hid (wr.drew.there g (i * 34) (atC (q j)).length) := by show World.there _ _ _ _; rw [atC_len]; exact (HR.out.drew.2 i (by omega)).2
   have HR1 := Lib.hid (HR.out.drew.set i (by omega) (q j))
   have S2 : Hid ((wr.drew.setCells g (i * 34) (atC (q j))).there g (j * 34) (atC (q i)).length) := by show World.there _ _ _ _; rw [atC_len]; exact (HR1.out.2 j (by omega)).2
   have HR2 := Lib.hid ((HR1.out.set j (by omega) (q i)).congr HST.out)
   have HB2 := Lib.hid (below_setCells hB (atC (q i)) (j * 34) _ (below_setCells hB (atC (q j)) (i * 34) _ HB.out.drew))
   have hsz1 : (Tryz.prog.info? 107).map (·.size) = some (atC (q j)).length := by rw [hi, atC_len]
   have hsz2 : (Tryz.prog.info? 107).map (·.size) = some (atC (q i)).length := by rw [hi, atC_len]
   have HI1 : Hid (∀ w, (Instr.indexAt 108 (.slice (some ⟨g, 0, none⟩) n c) (.int .i64 i)).run Tryz.prog w = .ok (.pointer (some ⟨g, i * 34, none⟩)) w) := fun w => by go_simp
   have HI2 : Hid (∀ w, (Instr.indexAt 108 (.slice (some ⟨g, 0, none⟩) n c) (.int .i64 j)).run Tryz.prog w = .ok (.pointer (some ⟨g, j * 34, none⟩)) w) := fun w => by go_simp
   go_wp2_with fail
   refine wp_region_at 16 #[false, false, false, false, false, false, false, false, false, false, false, false, false, false, false, false] rfl rfl (by kernel_rfl) ?_
   refine zzM 0 (.slice (some ⟨g, 0, none⟩) n c) (some 14) rfl ?_
   refine zzM 1 (.int .i64 i) (some 15) rfl ?_
   refine zzM 2 (.slice (some ⟨g, 0, none⟩) n c) (some 16) rfl ?_
   refine zzM 3 (.int .i64 j) (some 17) rfl ?_
   refine zzM 4 (.slice (some ⟨g, 0, none⟩) n c) (some 18) rfl ?_
   refine zzM 5 (.int .i64 j) (some 19) rfl ?_
   refine zzA 6 (.pointer (some ⟨g, j * 34, none⟩)) (some 20) rfl (fun _ => ex_indexAddr 108 _ _ (.slice (some ⟨g, 0, none⟩) n c) (.int .i64 j) _ rfl (by kernel_rfl) (by kernel_rfl) (HI2.out _)) ?_
   refine zzM 8 (.slice (some ⟨g, 0, none⟩) n c) (some 22) rfl ?_
   refine zzM 9 (.int .i64 i) (some 23) rfl ?_
   refine zzA 10 (.pointer (some ⟨g, i * 34, none⟩)) (some 24) rfl (fun _ => ex_indexAddr 108 _ _ (.slice (some ⟨g, 0, none⟩) n c) (.int .i64 i) _ rfl (by kernel_rfl) (by kernel_rfl) (HI1.out _)) ?_
   refine wpAny_loads 7 11 (some 21) (some 25) (by kernel_rfl) rfl rfl rfl rfl (by kernel_rfl) (by kernel_rfl) 107 (.tmp 20) rfl (g) (j * 34) (by kernel_rfl) (atC (q j)) _ ((HR.out.drew.2 j (by omega)).1) hu rfl (by rw [hi, atC_len]) 107 (.tmp 24) rfl (g) (i * 34) (by kernel_rfl) (atC (q i)) _ ((HR.out.drew.2 i (by omega)).1) hu rfl (by rw [hi, atC_len]) ?_ ?_
   ·simp only [Act.put, List.setIfInBounds_toArray, List.set_cons_zero, List.set_cons_succ]
    refine wpAny_load 11 (some 25) (by kernel_rfl) rfl rfl (by kernel_rfl) 107 (.tmp 24) rfl (g) (i * 34) (by kernel_rfl) (atC (q i)) _ ((HR.out.drew.2 i (by omega)).1) hu rfl (by rw [hi, atC_len]) ?_
    refine zzA 12 (.pointer (some ⟨g, i * 34, none⟩)) (some 26) rfl (fun _ => ex_indexAddr 108 _ _ (.slice (some ⟨g, 0, none⟩) n c) (.int .i64 i) _ rfl (by kernel_rfl) (by kernel_rfl) (HI1.out _)) ?_
    refine wpAny_store 13 (by kernel_rfl) rfl rfl (by kernel_rfl) 107 (.tmp 26) (.tmp 21) rfl (g) (i * 34) (atC (q j)) (by kernel_rfl) (by kernel_rfl) (S1.out) (hsz1) (atC_oneA _) ?_
    refine zzA 14 (.pointer (some ⟨g, j * 34, none⟩)) (some 27) rfl (fun _ => ex_indexAddr 108 _ _ (.slice (some ⟨g, 0, none⟩) n c) (.int .i64 j) _ rfl (by kernel_rfl) (by kernel_rfl) (HI2.out _)) ?_
    refine wpAny_store 15 (by kernel_rfl) rfl rfl (by kernel_rfl) 107 (.tmp 27) (.tmp 25) rfl (g) (j * 34) (atC (q i)) (by kernel_rfl) (by kernel_rfl) (S2.out) (hsz2) (atC_oneA _) ?_
    refine wpAny_done (by kernel_rfl) ?_ _
    simp only [Act.put, List.setIfInBounds_toArray, List.set_cons_zero, List.set_cons_succ]
    go_wp2_with fail
    go_roundg (n - (i + 1))
    case measure => omega
    case rel => exact ⟨i + 1, by go_num, by (show Value.int .i64 _ = Value.int .i64 _); congr 1; omega, by omega, HR2.out, HB2.out, Nat.le_refl _⟩
   ·simp only [Act.put, List.setIfInBounds_toArray, List.set_cons_zero, List.set_cons_succ]
    refine wpAny_load 7 (some 21) (by kernel_rfl) rfl rfl (by kernel_rfl) 107 (.tmp 20) rfl (g) (j * 34) (by kernel_rfl) (atC (q j)) _ ((HR.out.drew.2 j (by omega)).1) hu rfl (by rw [hi, atC_len]) ?_
    refine zzA 12 (.pointer (some ⟨g, i * 34, none⟩)) (some 26) rfl (fun _ => ex_indexAddr 108 _ _ (.slice (some ⟨g, 0, none⟩) n c) (.int .i64 i) _ rfl (by kernel_rfl) (by kernel_rfl) (HI1.out _)) ?_
    refine wpAny_store 13 (by kernel_rfl) rfl rfl (by kernel_rfl) 107 (.tmp 26) (.tmp 21) rfl (g) (i * 34) (atC (q j)) (by kernel_rfl) (by kernel_rfl) (S1.out) (hsz1) (atC_oneA _) ?_
    refine zzA 14 (.pointer (some ⟨g, j * 34, none⟩)) (some 27) rfl (fun _ => ex_indexAddr 108 _ _ (.slice (some ⟨g, 0, none⟩) n c) (.int .i64 j) _ rfl (by kernel_rfl) (by kernel_rfl) (HI2.out _)) ?_
    refine wpAny_store 15 (by kernel_rfl) rfl rfl (by kernel_rfl) 107 (.tmp 27) (.tmp 25) rfl (g) (j * 34) (atC (q i)) (by kernel_rfl) (by kernel_rfl) (S2.out) (hsz2) (atC_oneA _) ?_
    refine wpAny_done (by kernel_rfl) ?_ _
    simp only [Act.put, List.setIfInBounds_toArray, List.set_cons_zero, List.set_cons_succ]
    go_wp2_with fail
    go_roundg (n - (i + 1))
    case measure => omega
    case rel => exact ⟨i + 1, by go_num, by (show Value.int .i64 _ = Value.int .i64 _); congr 1; omega, by omega, HR2.out, HB2.out, Nat.le_refl _⟩
  ·have hlti : ¬ (i : Int) < (n : Int) - 1 - (i : Int) := by omega
   have HE := Lib.hid (HR.out.congr (mirr_end n i L (by omega)))
   go_wp2_with fail
   go_end0
   exact ⟨rfl, HE.out, HB.out⟩
end Go.Proofs.YtfkojnofbpdjdaaGreatDoor

namespace Go.Proofs.YtfkojnofbpdjdaaGreatDoor
set_option maxRecDepth 100000
open Go.RowKit
theorem turn_nil (a : Option Addr) (c : Nat) (w : World) :
 Calls Tryz.prog 154 #[.slice a 0 c] w fun e w' => e = .returned (.tuple #[]) ∧ w = w' := by
 go_enter Tryz.func154, Tryz.ntmps154
 go_wp2_with fail
 go_loopg [2, 3] 0 (fun _ s2 s3 wr => s2 = .int .i64 0 ∧ s3 = .int .i64 (-1) ∧ w = wr)
 case atStart => exact ⟨rfl, rfl, rfl⟩
 case round =>
  obtain ⟨rfl, rfl, rfl⟩ := hrel
  go_wp2_with fail
  go_end0
  exact ⟨rfl, rfl⟩
theorem revp_any (l : List At) (v : Value) (w : World) (hp : RdE atC 34 w v l) (hl : l.length ≤ 140737488355) :
 Calls Tryz.prog 103 #[v] w (RetRd w w.heap.size l.reverse) := by
 obtain ⟨R, HRR⟩ : ∃ R, Hid (R = RetRd w w.heap.size l.reverse) := ⟨_, rfl⟩
 rw [← HRR.out]
 have HC := Lib.hid (clone_any l v w hp hl)
 clear hp
 go_enter Tryz.func103, Tryz.ntmps103
 go_upto_region 2 with (go_at_call 153; refine HC.out.mono ?_; rintro e w1 ⟨v1, rfl, hown, hb1⟩)
 have HB1 := Lib.hid hb1
 rcases hown.2 with ⟨rfl, h0⟩ | ⟨g, cap, cur, rfl, hbg, hh, hc, hcm, hs, htk⟩
 ·obtain rfl : l = [] := List.eq_nil_of_length_eq_zero h0
  clear hown hb1 HC
  go_wp2_with (go_at_call 154; refine (turn_nil _ _ _).mono ?_; rintro e w' ⟨rfl, rfl⟩)
  rw [HRR.out]
  exact ⟨_, rfl, RdE.nil, HB1.out⟩
 ·have hra := RowA.of hown
  have HT := Lib.hid (turn_any g g cap l.length (atAt l) w1 hra.1 (Nat.le_refl _) hl)
  have hgg := hra.2
  clear hra hown hh htk hs hcm hb1 HC
  go_wp2_with (go_at_call 154; refine HT.out.mono ?_; rintro e w2 ⟨rfl, hr2, hb2⟩)
  rw [HRR.out]
  refine ⟨_, rfl, hr2.rd l.reverse (by simp) hc (fun t x h => rev_at l t x h), HB1.out.trans (hb2.mono hgg)⟩
end Go.Proofs.YtfkojnofbpdjdaaGreatDoor

namespace Go.Proofs.YtfkojnofbpdjdaaGreatDoor
set_option maxRecDepth 100000
open Go.RowKit
structure Sl where
 A : Option Addr
 n : Nat
 c : Nat
def Sl.v (x : Sl) : Value := .slice x.A x.n x.c
structure RuV where
 b : Bool
 u : Sl
 t : Sl
def ruC (x : RuV) : List Value := [.bool x.b, x.u.v, x.t.v]
theorem ruC_len (x : RuV) : (ruC x).length = 3 := rfl
theorem ruC_one (x : RuV) : ∀ v ∈ ruC x, v.oneCell' = true := by
 intro v hv
 simp [ruC, Sl.v] at hv
 rcases hv with rfl | rfl | rfl <;> rfl
def RdRu (w : World) (v : Value) (l : List Ru) : Prop := ∃ xs : List RuV, RdE ruC 3 w v xs ∧ xs.length = l.length ∧ ∀ (i : Nat) (x : RuV) (r : Ru), xs[i]? = some x → l[i]? = some r → x.b = r.br ∧ RdE atC 34 w x.u.v r.bf ∧ RdE atC 34 w x.t.v r.af
theorem RdRu.below {w w' : World} {B : Nat} {v : Value} {l : List Ru} (h : RdRu w v l) (hb : Below B w w') (hB : w.heap.size ≤ B) : RdRu w' v l := by
 obtain ⟨xs, h1, h2, h3⟩ := h
 exact ⟨xs, h1.below hb hB, h2, fun i x r hx hr => ⟨(h3 i x r hx hr).1, (h3 i x r hx hr).2.1.below hb hB, (h3 i x r hx hr).2.2.below hb hB⟩⟩
end Go.Proofs.YtfkojnofbpdjdaaGreatDoor

namespace Go.Proofs.YtfkojnofbpdjdaaGreatDoor
set_option maxRecDepth 100000
open Go.RowKit
theorem ruC_oneA (x : RuV) : (ruC x).toArray.all (·.oneCell') = true := by
 rw [Array.all_eq_true_iff_forall_mem]
 intro v hv
 exact ruC_one x v (List.mem_toArray.1 hv)
theorem int_info6 : (Tryz.prog.info? 3).map (fun i => (i.zero, i.size, i.bytes)) = some (some (.int .i64 0), 1, 8) := by kernel_rfl
theorem intC_oneA (x : Int) : ∀ u ∈ intC x, u.oneCell' = true := by
 intro u hu
 simp [intC] at hu
 subst hu
 rfl
theorem ld_slice {w : World} {b o : Nat} {A : Option Addr} {n c : Nat} (h : w.cell? ⟨b, o, none⟩ = some (.slice A n c)) : (Instr.loadAt 108 (.pointer (some ⟨b, o, none⟩))).run Tryz.prog w = .ok (.slice A n c) w := by
 go_simp
theorem breaks_any (rs : List Ru) (v : Value) (s : ByteArray) (w : World) (ht : RdRu w v rs) (hl : rs.length ≤ 1000000) (hal : ∀ r ∈ rs, r.bf.length ≤ 1000000 ∧ r.af.length ≤ 1000000) :
 Calls Tryz.prog 59 #[v, .string s] w (RetOwn 3 intC 1 w (breaksF rs s)) := by
 obtain ⟨R, HRR⟩ : ∃ R, Hid (R = RetOwn 3 intC 1 w (breaksF rs s)) := ⟨_, rfl⟩
 rw [← HRR.out]
 obtain ⟨xs, hx0, hxl, hx⟩ := ht
 have hxa : xs.length ≤ rs.length := Nat.le_of_eq hxl
 have hxb : rs.length ≤ xs.length := Nat.le_of_eq hxl.symm
 clear hxl
 obtain ⟨Av, cv, rfl, hlc, _⟩ := hx0.shape
 by_cases h24 : 1024 < s.size
 ·have h24i : (1024 : Int) < (s.size : Int) := by omega
  have e0 : breaksF rs s = [] := by unfold breaksF; rw [if_pos h24]
  go_enter Tryz.func59, Tryz.ntmps59
  go_wp2_with fail
  rw [HRR.out, e0]
  exact ⟨_, rfl, OwnE.nil, Below.refl _ _⟩
 have h24i : ¬ (1024 : Int) < (s.size : Int) := by omega
 have HX := Lib.hid hx0
 have HXR := Lib.hid hx
 clear hx0 hx
 have hu := Tryz.underlying110
 have hi : (Tryz.prog.info? 110).map (·.size) = some 3 := by kernel_rfl
 have hmk := fun w => run_make_row' (P := Tryz.prog) 134 4 (.bool false) 1 Tryz.underlying134 bool_info rfl .i64 .i64 (s.size + 1) (by omega) (by omega) w
 rw [show ((s.size + 1 : Nat) : Int) = (s.size : Int) + 1 by omega] at hmk
 have HRV := Lib.hid (reversed_any s w (by omega))
 have hbks : (rvS s s.size).size = s.size := rv_size s
 have HBT : Hid (∀ j, j < s.size → bt (rvS s s.size) j = bt s (s.size - 1 - j)) := rv_bt s
 generalize rvS s s.size = bk at HRV hbks HBT
 go_enter Tryz.func59, Tryz.ntmps59
 go_upto_region 4 with (go_at_call 101; refine HRV.out.mono ?_; rintro e w1 ⟨rfl, hb1⟩)
 have HB1 := Lib.hid hb1
 have HD1 : Hid ((w1.alloc (.cells (madeCells #[.bool false] (s.size + 1)) 4)).rowIs w1.heap.size 4 (s.size + 1) (fun j => .bool (false))) := World.rowIs_made w1 (.bool false) (s.size + 1) 4
 have HB2 := Lib.hid (HB1.out.alloc HB1.out.size (.cells (madeCells #[.bool false] (s.size + 1)) 4))
 clear hb1 HRV
 go_upto_region 5 with fail
 have hz1 := HB1.out.size
 generalize w1.heap.size = D at HD1 hz1 ⊢
 generalize w1.alloc (.cells (madeCells #[.bool false] (s.size + 1)) 4) = w2 at HD1 HB2 ⊢
 have HK1 : Hid ((w2.alloc (.cells (madeCells #[.bool false] (s.size + 1)) 4)).rowIs w2.heap.size 4 (s.size + 1) (fun j => .bool (false))) := World.rowIs_made w2 (.bool false) (s.size + 1) 4
 have HB3 := Lib.hid (HB2.out.alloc HB2.out.size (.cells (madeCells #[.bool false] (s.size + 1)) 4))
 have HD2 := Lib.hid (HD1.out.of_block (w' := w2.alloc (.cells (madeCells #[.bool false] (s.size + 1)) 4)) (Below.heap_alloc w2 _ D HD1.out.lt))
 have hDK : D < w2.heap.size := HD1.out.lt
 go_upto_region 6 with fail
 clear HD1 HB2 HB1
 generalize w2.heap.size = K at HK1 hDK ⊢
 generalize w2.alloc (.cells (madeCells #[.bool false] (s.size + 1)) 4) = w3 at HK1 HD2 HB3 ⊢
 go_wp2_with fail
 obtain ⟨wo, HWO⟩ : ∃ wo, Hid (wo = w3) := ⟨w3, rfl⟩
 go_loopg [31] xs.length (fun gk kv wr => ∃ k : Nat, kv = .int .i64 k ∧ k ≤ xs.length ∧ Hid (wr.rowIs D 4 (s.size + 1) (fun j => .bool (decide (0 < j ∧ j < s.size) && foundF (rs.take k) s j))) ∧ Hid (wr.rowIs K 4 (s.size + 1) (fun j => .bool (decide (0 < j ∧ j < s.size) && decideF (rs.take k) s j))) ∧ Hid (Below w.heap.size w wr) ∧ xs.length - k ≤ gk)
 case atStart => exact ⟨0, rfl, by omega, HD2.out.congr (fun j _ => by rw [List.take_zero]; show _ = Value.bool (_ && false); rw [Bool.and_false]), HK1.out.congr (fun j _ => by rw [List.take_zero]; show _ = Value.bool (_ && false); rw [Bool.and_false]), HB3.out, by omega⟩
 case round =>
  clear HD2 HK1 HB3 HWO
  obtain ⟨k, rfl, hk, HD, HK, HB, hgk⟩ := hrel
  by_cases hkl : k < xs.length
  ·have hki : (k : Int) < (xs.length : Int) := by omega
   have hk0 : (0 : Int) ≤ (k : Int) := by omega
   obtain ⟨bp, o, rfl, hbl, hcell⟩ := HX.out.cells (by omega)
   have hxk : xs[k]? = some xs[k] := List.getElem?_eq_getElem hkl
   have hrk : rs[k]? = some (rs[k]'(by omega)) := List.getElem?_eq_getElem (by omega)
   have hrg : wr.rangeAt bp (o + k * 3) (ruC xs[k]) := fun j v hj => by
    rw [Nat.add_assoc]
    exact (HB.out.cell (p := ⟨bp, o + (k * 3 + j), none⟩) hbl).trans (hcell k _ j v hxk hj)
   obtain ⟨hbr, hbf, haf⟩ := HXR.out k _ _ hxk hrk
   have HTK : Hid (rs.take (k + 1) = rs.take k ++ [rs[k]'(by omega)]) := List.take_succ_eq_append_getElem (by omega)
   have hrl : (rs[k]'(by omega)).bf.length ≤ 140737488355328 ∧ (rs[k]'(by omega)).af.length ≤ 140737488355 := by have := hal _ (List.getElem_mem (show k < rs.length by omega)); omega
   have HU1 := Lib.hid (hbf.below HB.out (Nat.le_refl _))
   have HT1 := Lib.hid (haf.below HB.out (Nat.le_refl _))
   clear hcell hxk hrk hbf haf
   generalize xs[k] = y at hrg hbr HU1 HT1
   generalize rs[k]'(by omega) = r at hbr HU1 HT1 HTK hrl
   obtain ⟨yb, ⟨uA, un, uc⟩, ⟨tA, tn, tc⟩⟩ := y
   obtain rfl : yb = r.br := hbr
   have hz := HB.out.size
   have hz2 := HB.out.size
   have hq1 : bp < wr.heap.size := Nat.lt_of_lt_of_le hbl hz2
   have HQ : Hid (((wr.alloc (.cells #[.bool false, .slice none 0 0, .slice none 0 0] 110)).setRow wr.heap.size (ruC ⟨r.br, ⟨uA, un, uc⟩, ⟨tA, tn, tc⟩⟩).toArray).heap[wr.heap.size]? = some (.cells (ruC ⟨r.br, ⟨uA, un, uc⟩, ⟨tA, tn, tc⟩⟩).toArray 110)) := setRow_heap _ _ _ _ _ _ (heap_alloc_new wr _)
   have HB4 : Hid (Below w.heap.size w ((wr.alloc (.cells #[.bool false, .slice none 0 0, .slice none 0 0] 110)).setRow wr.heap.size (ruC ⟨r.br, ⟨uA, un, uc⟩, ⟨tA, tn, tc⟩⟩).toArray)) := below_setRow (HB.out.alloc hz _) hz _
   have HN4 : Hid (Below wr.heap.size wr ((wr.alloc (.cells #[.bool false, .slice none 0 0, .slice none 0 0] 110)).setRow wr.heap.size (ruC ⟨r.br, ⟨uA, un, uc⟩, ⟨tA, tn, tc⟩⟩).toArray)) := below_setRow ((Below.refl _ wr).alloc (Nat.le_refl _) _) (Nat.le_refl _) _
   go_upto_region 9 with (first
    | (refine wpList_load_mid rfl 110 (.tmp 33) rfl bp (o + k * 3) rfl (ruC ⟨r.br, ⟨uA, un, uc⟩, ⟨tA, tn, tc⟩⟩) _ hrg hu rfl (by rw [hi]; rfl) ?_)
    | (refine wpList_store_row rfl 110 (.tmp 9) (.tmp 34) rfl (wr.heap.size) (ruC ⟨r.br, ⟨uA, un, uc⟩, ⟨tA, tn, tc⟩⟩).toArray rfl rfl 110 _ (heap_alloc_new wr _) (by rw [hi]; rfl) rfl (ruC_oneA _) ?_))
   have HD4 := Lib.hid (HD.out.of_block (w' := (wr.alloc (.cells #[.bool false, .slice none 0 0, .slice none 0 0] 110)).setRow wr.heap.size (ruC ⟨r.br, ⟨uA, un, uc⟩, ⟨tA, tn, tc⟩⟩).toArray) (HN4.out.block _ HD.out.lt))
   have HK4 := Lib.hid (HK.out.of_block (w' := (wr.alloc (.cells #[.bool false, .slice none 0 0, .slice none 0 0] 110)).setRow wr.heap.size (ruC ⟨r.br, ⟨uA, un, uc⟩, ⟨tA, tn, tc⟩⟩).toArray) (HN4.out.block _ HK.out.lt))
   have HU4 := Lib.hid (HU1.out.below HN4.out (Nat.le_refl _))
   have HT4 := Lib.hid (HT1.out.below HN4.out (Nat.le_refl _))
   have hDq : D < wr.heap.size := HD.out.lt
   have hKq : K < wr.heap.size := HK.out.lt
   have hq4 : wr.heap.size < ((wr.alloc (.cells #[.bool false, .slice none 0 0, .slice none 0 0] 110)).setRow wr.heap.size (ruC ⟨r.br, ⟨uA, un, uc⟩, ⟨tA, tn, tc⟩⟩).toArray).heap.size := (Array.getElem?_eq_some_iff.1 HQ.out).1
   clear HD HK HB HN4 HU1 HT1 hrg hz hz2 hq1
   generalize wr.heap.size = q at HQ HB4 HD4 HK4 HU4 HT4 hDq hKq hq4 ⊢
   generalize (wr.alloc (.cells #[.bool false, .slice none 0 0, .slice none 0 0] 110)).setRow q (ruC ⟨r.br, ⟨uA, un, uc⟩, ⟨tA, tn, tc⟩⟩).toArray = wr4 at HQ HB4 HD4 HK4 HU4 HT4 hq4 ⊢
   change Hid (RdE atC 34 wr4 (.slice uA un uc) r.bf) at HU4
   change Hid (RdE atC 34 wr4 (.slice tA tn tc) r.af) at HT4
   have z0 : wr4.cell? ⟨q, 0, none⟩ = some (.bool r.br) := by rw [cell_of_row _ _ _ _ _ _ HQ.out]; rfl
   have z1 : wr4.cell? ⟨q, 1, none⟩ = some (.slice uA un uc) := by rw [cell_of_row _ _ _ _ _ _ HQ.out]; rfl
   have z2 : wr4.cell? ⟨q, 2, none⟩ = some (.slice tA tn tc) := by rw [cell_of_row _ _ _ _ _ _ HQ.out]; rfl
   have HL1 : Hid ((Instr.loadAt 108 (.pointer (some ⟨q, 1, none⟩))).run Tryz.prog wr4.drew = .ok (.slice uA un uc) wr4.drew) := ld_slice z1
   have HL2 : Hid ((Instr.loadAt 108 (.pointer (some ⟨q, 2, none⟩))).run Tryz.prog wr4.drew = .ok (.slice tA tn tc) wr4.drew) := ld_slice z2
   obtain ⟨hbl0, hal0⟩ := hrl
   refine wp_region_at 11 #[false, false, false, false, false, false, false, false, false, false, false] rfl rfl (by kernel_rfl) ?_
   refine zzA 0 (.pointer (some ⟨q, 1, none⟩)) (some 35) rfl (fun _ => ex_fieldAddr 110 _ 1 (.pointer (some ⟨q, 0, none⟩)) _ rfl (by kernel_rfl) (by go_simp)) ?_
   refine zzM 2 (.string s) (some 37) rfl ?_
   refine zzA 4 (.pointer (some ⟨q, 2, none⟩)) (some 39) rfl (fun _ => ex_fieldAddr 110 _ 2 (.pointer (some ⟨q, 0, none⟩)) _ rfl (by kernel_rfl) (by go_simp)) ?_
   refine zzM 7 (.string bk) (some 42) rfl ?_
   refine wpAny_vals 1 5 (some 36) (some 40) (.slice uA un uc) (.slice tA tn tc) (by kernel_rfl) rfl rfl rfl rfl (by kernel_rfl) (by kernel_rfl) (ex_load 108 _ (.pointer (some ⟨q, 1, none⟩)) _ rfl (by kernel_rfl) (HL1.out)) (ex_load 108 _ (.pointer (some ⟨q, 2, none⟩)) _ rfl (by kernel_rfl) (HL2.out)) ?_ ?_
   ·simp only [Act.put, List.setIfInBounds_toArray, List.set_cons_zero, List.set_cons_succ]
    refine wpAny_callval 3 5 (some 38) (some 40) (.slice tA tn tc) (by kernel_rfl) rfl rfl rfl rfl (by kernel_rfl) (by kernel_rfl) 102 (#[.slice uA un uc, .string s]) (by go_simp) (ends_any r.bf s _ wr4.drew HU4.out (by omega) hbl0) (ex_load 108 _ (.pointer (some ⟨q, 2, none⟩)) _ rfl (by kernel_rfl) (HL2.out)) ?_ ?_
    ·rintro e w5 ⟨g1, rfl, hg1, hr1, hb5⟩
     refine ⟨_, rfl, ?_⟩
     have HL3 : Hid (∀ w', w'.heap = w5.heap → (Instr.loadAt 108 (.pointer (some ⟨q, 2, none⟩))).run Tryz.prog w' = .ok (.slice tA tn tc) w') := fun w' hw' => ld_slice (by rw [World.cell?_of_block (w := w5) (by rw [hw'])]; exact (hb5.cell (p := ⟨q, 2, none⟩) hq4).trans z2)
     change wpAny _ _ _ _ _ _ (Act.put _ (some 38) _) _
     refine wpAny_val 5 (some 40) (.slice tA tn tc) (by kernel_rfl) rfl rfl (by kernel_rfl) (ex_load 108 _ (.pointer (some ⟨q, 2, none⟩)) _ rfl (by kernel_rfl) (HL3.out _ rfl)) ?_
     refine wpAny_call 6 (some 41) (by kernel_rfl) rfl rfl (by kernel_rfl) 103 (#[.slice tA tn tc]) (by go_simp) (revp_any r.af _ w5 ((show RdE atC 34 wr4.drew _ _ from HT4.out).below hb5 (Nat.le_refl _)) hal0) ?_
     rintro e w6 ⟨v6, rfl, hr6, hb6⟩
     refine ⟨_, rfl, ?_⟩
     change wpAny _ _ _ _ _ _ (Act.put _ (some 41) _) _
     refine wpAny_call 8 (some 43) (by kernel_rfl) rfl rfl (by kernel_rfl) 102 (#[v6, .string bk]) (by go_simp) (ends_any r.af.reverse bk v6 w6 hr6 (by omega) (by simp; omega)) ?_
     rintro e w7 ⟨g2, rfl, hg2, hr2, hb7⟩
     refine ⟨_, rfl, ?_⟩
     rw [hbks]
     change wpAny _ _ _ _ _ _ (Act.put _ (some 43) _) _
     refine zzG 9 (.slice (some ⟨g1, 0, none⟩) (s.size + 1) (s.size + 1)) (some 10) rfl ?_
     refine zzG 10 (.slice (some ⟨g2, 0, none⟩) (s.size + 1) (s.size + 1)) (some 11) rfl ?_
     refine wpAny_done (by kernel_rfl) ?_ _
     simp only [Act.put, List.setIfInBounds_toArray, List.set_cons_zero, List.set_cons_succ]
     rw [hbks] at hr2
     have HG1 : Hid (w7.rowIs g1 4 (s.size + 1) (fun j => .bool (reachF s r.bf allF j))) := (hr1.of_block (hb6.block _ hr1.lt)).of_block (hb7.block _ (hr1.of_block (hb6.block _ hr1.lt)).lt)
     have HG2 : Hid (w7.rowIs g2 4 (s.size + 1) (fun j => .bool (reachF bk r.af.reverse allF j))) := hr2
     have HBq : Hid (Below wr4.heap.size wr4 w7) := ((below_drewN (Below.refl _ wr4) 1).trans hb5).trans ((hb6.trans (hb7.mono hb6.size)).mono hb5.size)
     have HD7 := Lib.hid (HD4.out.of_block (HBq.out.block _ HD4.out.lt))
     have HK7 := Lib.hid (HK4.out.of_block (HBq.out.block _ HK4.out.lt))
     have HB7 := Lib.hid (HB4.out.trans (HBq.out.mono HB4.out.size))
     have z0w := (HBq.out.cell (p := ⟨q, 0, none⟩) hq4).trans z0
     have hg1q : q < g1 := Nat.lt_of_lt_of_le hq4 hg1
     have hg2q : q < g2 := Nat.lt_of_lt_of_le hq4 (Nat.le_trans (Nat.le_trans hb5.size hb6.size) hg2)
     clear hr1 hr2 hb5 hb6 hb7 HL3 hr6 HBq z0 z1 z2 HL1 HL2 HD4 HK4 HB4 HU4 HT4 HQ hq4
     go_wp2_with fail
     obtain ⟨wo2, HWO2⟩ : ∃ wo, Hid (wo = w7) := ⟨w7, rfl⟩
     go_loopg [12] (s.size + 1) (fun gk iv wr => ∃ i : Nat, iv = .int .i64 i ∧ 1 ≤ i ∧ i ≤ s.size + 1 ∧ Hid (wr.rowIs D 4 (s.size + 1) (fun j => .bool (if j < i then decide (0 < j ∧ j < s.size) && foundF (rs.take (k + 1)) s j else decide (0 < j ∧ j < s.size) && foundF (rs.take k) s j))) ∧ Hid (wr.rowIs K 4 (s.size + 1) (fun j => .bool (if j < i then decide (0 < j ∧ j < s.size) && decideF (rs.take (k + 1)) s j else decide (0 < j ∧ j < s.size) && decideF (rs.take k) s j))) ∧ Hid (wr.rowIs g1 4 (s.size + 1) (fun j => .bool (reachF s r.bf allF j))) ∧ Hid (wr.rowIs g2 4 (s.size + 1) (fun j => .bool (reachF bk r.af.reverse allF j))) ∧ wr.cell? ⟨q, 0, none⟩ = some (.bool r.br) ∧ Hid (Below w.heap.size w wr) ∧ s.size + 1 - i ≤ gk)
     case atStart => exact ⟨1, rfl, Nat.le_refl _, by omega, HD7.out.congr (fun j _ => by
      by_cases h : j < 1
      ·rw [if_pos h, show j = 0 by omega]; rfl
      ·rw [if_neg h]), HK7.out.congr (fun j _ => by
      by_cases h : j < 1
      ·rw [if_pos h, show j = 0 by omega]; rfl
      ·rw [if_neg h]), HG1.out, HG2.out, z0w, HB7.out, by omega⟩
     case round =>
      clear HD7 HK7 HG1 HG2 z0w HB7 HWO2
      obtain ⟨i, rfl, hi1, hi2, HDi, HKi, HG1i, HG2i, z0i, HBi, hgki⟩ := hrel
      by_cases hil : i < s.size
      ·have hii : (i : Int) < (s.size : Int) := by omega
       have hi0 : (0 : Int) ≤ (i : Int) := by omega
       have hi3 : (i : Int) < (s.size : Int) + 1 := by omega
       obtain ⟨t, ht⟩ : ∃ t, t + i = s.size := ⟨s.size - i, by omega⟩
       have hsub : (s.size : Int) - (i : Int) = (t : Int) := by omega
       have ht0 : (0 : Int) ≤ (t : Int) := by omega
       have ht1 : (t : Int) < (s.size : Int) + 1 := by omega
       have qd := HDi.out.cell (i := i) (by omega)
       rw [if_neg (Nat.lt_irrefl i), decide_eq_true ⟨hi1, hil⟩, Bool.true_and] at qd
       have qk := HKi.out.cell (i := i) (by omega)
       have qb := HG1i.out.cell (i := i) (by omega)
       rw [ends_suf r.bf s i (by omega)] at qb
       have qa := HG2i.out.cell (i := t) (by omega)
       rw [show t = s.size - i by omega, ends_pre r.af hbks HBT.out i (by omega), show s.size - i = t by omega] at qa
       have hnd : foundF (rs.take (k + 1)) s i = (foundF (rs.take k) s i || (suffixF r.bf (s.extract 0 i) && prefixF r.af (s.extract i s.size))) := by rw [HTK.out, found_snoc]; rfl
       have hnk : decideF (rs.take (k + 1)) s i = if foundF (rs.take k) s i = true then decideF (rs.take k) s i else ((suffixF r.bf (s.extract 0 i) && prefixF r.af (s.extract i s.size)) && r.br) := by rw [HTK.out, decide_snoc]; rfl
       have hno := decide_none (rs.take k) s i
       cases hfd : foundF (rs.take k) s i with
       | true =>
         rw [hfd] at qd
         have hnew1 : (decide (0 < i ∧ i < s.size) && foundF (rs.take (k + 1)) s i) = (decide (0 < i ∧ i < s.size) && foundF (rs.take k) s i) := by rw [hnd, hfd]; rfl
         have hnew2 : (decide (0 < i ∧ i < s.size) && decideF (rs.take (k + 1)) s i) = (decide (0 < i ∧ i < s.size) && decideF (rs.take k) s i) := by rw [hnk, if_pos hfd]
         clear hnd hnk hno
         have HDN : Hid (wr.rowIs D 4 (s.size + 1) (fun j => .bool (if j < i + 1 then decide (0 < j ∧ j < s.size) && foundF (rs.take (k + 1)) s j else decide (0 < j ∧ j < s.size) && foundF (rs.take k) s j))) := HDi.out.congr fun j hj => by
               by_cases h : j = i
               ·rw [if_neg (by omega), if_pos (by omega), h, hnew1]
               ·by_cases h2 : j < i
                ·rw [if_pos h2, if_pos (by omega)]
                ·rw [if_neg h2, if_neg (by omega)]
         have HKN : Hid (wr.rowIs K 4 (s.size + 1) (fun j => .bool (if j < i + 1 then decide (0 < j ∧ j < s.size) && decideF (rs.take (k + 1)) s j else decide (0 < j ∧ j < s.size) && decideF (rs.take k) s j))) := HKi.out.congr fun j hj => by
               by_cases h : j = i
               ·rw [if_neg (by omega), if_pos (by omega), h, hnew2]
               ·by_cases h2 : j < i
                ·rw [if_pos h2, if_pos (by omega)]
                ·rw [if_neg h2, if_neg (by omega)]
         clear hnew1 hnew2
         go_wp2_with fail
         go_roundg (s.size + 1 - (i + 1))
         case measure => omega
         case rel => exact ⟨i + 1, by go_num, by omega, by omega, HDN.out, HKN.out, HG1i.out, HG2i.out, z0i, HBi.out, Nat.le_refl _⟩
       | false =>
         rw [hfd] at qd
         cases hsb : suffixF r.bf (s.extract 0 i) with
         | false =>
           rw [hsb] at qb
           have hnew1 : (decide (0 < i ∧ i < s.size) && foundF (rs.take (k + 1)) s i) = (decide (0 < i ∧ i < s.size) && foundF (rs.take k) s i) := by rw [hnd, hfd, hsb]; rfl
           have hnew2 : (decide (0 < i ∧ i < s.size) && decideF (rs.take (k + 1)) s i) = (decide (0 < i ∧ i < s.size) && decideF (rs.take k) s i) := by rw [hnk, if_neg (by rw [hfd]; exact Bool.false_ne_true), hsb, hno hfd]; rfl
           clear hnd hnk hno
           have HDN : Hid (wr.rowIs D 4 (s.size + 1) (fun j => .bool (if j < i + 1 then decide (0 < j ∧ j < s.size) && foundF (rs.take (k + 1)) s j else decide (0 < j ∧ j < s.size) && foundF (rs.take k) s j))) := HDi.out.congr fun j hj => by
                    by_cases h : j = i
                    ·rw [if_neg (by omega), if_pos (by omega), h, hnew1]
                    ·by_cases h2 : j < i
                     ·rw [if_pos h2, if_pos (by omega)]
                     ·rw [if_neg h2, if_neg (by omega)]
           have HKN : Hid (wr.rowIs K 4 (s.size + 1) (fun j => .bool (if j < i + 1 then decide (0 < j ∧ j < s.size) && decideF (rs.take (k + 1)) s j else decide (0 < j ∧ j < s.size) && decideF (rs.take k) s j))) := HKi.out.congr fun j hj => by
                    by_cases h : j = i
                    ·rw [if_neg (by omega), if_pos (by omega), h, hnew2]
                    ·by_cases h2 : j < i
                     ·rw [if_pos h2, if_pos (by omega)]
                     ·rw [if_neg h2, if_neg (by omega)]
           clear hnew1 hnew2
           go_wp2_with fail
           go_roundg (s.size + 1 - (i + 1))
           case measure => omega
           case rel => exact ⟨i + 1, by go_num, by omega, by omega, HDN.out, HKN.out, HG1i.out, HG2i.out, z0i, HBi.out, Nat.le_refl _⟩
         | true =>
           rw [hsb] at qb
           cases hpa : prefixF r.af (s.extract i s.size) with
           | false =>
             rw [hpa] at qa
             have hnew1 : (decide (0 < i ∧ i < s.size) && foundF (rs.take (k + 1)) s i) = (decide (0 < i ∧ i < s.size) && foundF (rs.take k) s i) := by rw [hnd, hfd, hsb, hpa]; rfl
             have hnew2 : (decide (0 < i ∧ i < s.size) && decideF (rs.take (k + 1)) s i) = (decide (0 < i ∧ i < s.size) && decideF (rs.take k) s i) := by rw [hnk, if_neg (by rw [hfd]; exact Bool.false_ne_true), hsb, hpa, hno hfd]; rfl
             clear hnd hnk hno
             have HDN : Hid (wr.rowIs D 4 (s.size + 1) (fun j => .bool (if j < i + 1 then decide (0 < j ∧ j < s.size) && foundF (rs.take (k + 1)) s j else decide (0 < j ∧ j < s.size) && foundF (rs.take k) s j))) := HDi.out.congr fun j hj => by
              by_cases h : j = i
              ·rw [if_neg (by omega), if_pos (by omega), h, hnew1]
              ·by_cases h2 : j < i
               ·rw [if_pos h2, if_pos (by omega)]
               ·rw [if_neg h2, if_neg (by omega)]
             have HKN : Hid (wr.rowIs K 4 (s.size + 1) (fun j => .bool (if j < i + 1 then decide (0 < j ∧ j < s.size) && decideF (rs.take (k + 1)) s j else decide (0 < j ∧ j < s.size) && decideF (rs.take k) s j))) := HKi.out.congr fun j hj => by
              by_cases h : j = i
              ·rw [if_neg (by omega), if_pos (by omega), h, hnew2]
              ·by_cases h2 : j < i
               ·rw [if_pos h2, if_pos (by omega)]
               ·rw [if_neg h2, if_neg (by omega)]
             clear hnew1 hnew2
             go_wp2_with fail
             go_roundg (s.size + 1 - (i + 1))
             case measure => omega
             case rel => exact ⟨i + 1, by go_num, by omega, by omega, HDN.out, HKN.out, HG1i.out, HG2i.out, z0i, HBi.out, Nat.le_refl _⟩
           | true =>
             rw [hpa] at qa
             have hnew1 : foundF (rs.take (k + 1)) s i = true := by rw [hnd, hfd, hsb, hpa]; rfl
             have hnew2 : decideF (rs.take (k + 1)) s i = r.br := by rw [hnk, if_neg (by rw [hfd]; exact Bool.false_ne_true), hsb, hpa]; rfl
             clear hnd hnk hno
             have fd := HDi.out.frozen i
             have fk := HKi.out.frozen i
             have hne : ¬ D = K := by omega
             have hne2 : ¬ K = D := by omega
             have HD8 : Hid (((wr.drew.setCell ⟨D, i, none⟩ (.bool true)).setCell ⟨K, i, none⟩ (.bool r.br)).rowIs D 4 (s.size + 1) (fun j => .bool (if j < i + 1 then decide (0 < j ∧ j < s.size) && foundF (rs.take (k + 1)) s j else decide (0 < j ∧ j < s.size) && foundF (rs.take k) s j))) := ((HDi.out.drew.set i (.bool true)).of_block (Below.heap_setCell _ _ _ _ (show D ≠ K by omega))).congr fun j hj => by
              by_cases h : j = i
              ·rw [if_pos h, if_pos (by omega), h, hnew1, decide_eq_true ⟨hi1, hil⟩]; rfl
              ·rw [if_neg h]
               by_cases h2 : j < i
               ·rw [if_pos h2, if_pos (by omega)]
               ·rw [if_neg h2, if_neg (by omega)]
             have HK8 : Hid (((wr.drew.setCell ⟨D, i, none⟩ (.bool true)).setCell ⟨K, i, none⟩ (.bool r.br)).rowIs K 4 (s.size + 1) (fun j => .bool (if j < i + 1 then decide (0 < j ∧ j < s.size) && decideF (rs.take (k + 1)) s j else decide (0 < j ∧ j < s.size) && decideF (rs.take k) s j))) := ((HKi.out.drew.of_block (Below.heap_setCell _ _ _ _ (show K ≠ D by omega))).set i (.bool r.br)).congr fun j hj => by
              by_cases h : j = i
              ·rw [if_pos h, if_pos (by omega), h, hnew2, decide_eq_true ⟨hi1, hil⟩]; rfl
              ·rw [if_neg h]
               by_cases h2 : j < i
               ·rw [if_pos h2, if_pos (by omega)]
               ·rw [if_neg h2, if_neg (by omega)]
             have HG18 : Hid (((wr.drew.setCell ⟨D, i, none⟩ (.bool true)).setCell ⟨K, i, none⟩ (.bool r.br)).rowIs g1 4 (s.size + 1) (fun j => .bool (reachF s r.bf allF j))) := (HG1i.out.drew.of_block (Below.heap_setCell _ _ _ _ (show g1 ≠ D by omega))).of_block (Below.heap_setCell _ _ _ _ (show g1 ≠ K by omega))
             have HG28 : Hid (((wr.drew.setCell ⟨D, i, none⟩ (.bool true)).setCell ⟨K, i, none⟩ (.bool r.br)).rowIs g2 4 (s.size + 1) (fun j => .bool (reachF bk r.af.reverse allF j))) := (HG2i.out.drew.of_block (Below.heap_setCell _ _ _ _ (show g2 ≠ D by omega))).of_block (Below.heap_setCell _ _ _ _ (show g2 ≠ K by omega))
             have HZ8 : Hid (((wr.drew.setCell ⟨D, i, none⟩ (.bool true)).setCell ⟨K, i, none⟩ (.bool r.br)).cell? ⟨q, 0, none⟩ = some (.bool r.br)) := by
              show _ = _
              rw [World.cell?_of_block (w := wr.drew.setCell ⟨D, i, none⟩ (.bool true)) (Below.heap_setCell _ _ _ _ (show q ≠ K by omega)), World.cell?_of_block (w := wr.drew) (Below.heap_setCell _ _ _ _ (show q ≠ D by omega))]
              exact z0i
             have HB8 : Hid (Below w.heap.size w ((wr.drew.setCell ⟨D, i, none⟩ (.bool true)).setCell ⟨K, i, none⟩ (.bool r.br))) := (HBi.out.drew.setCell (p := ⟨D, i, none⟩) (show w.heap.size ≤ D by omega) _).setCell (p := ⟨K, i, none⟩) (show w.heap.size ≤ K by omega) _
             go_upto_region 14 with fail
             go_region
             go_wp2_with fail
             go_roundg (s.size + 1 - (i + 1))
             case measure => omega
             case rel => exact ⟨i + 1, by go_num, by omega, by omega, HD8.out, HK8.out, HG18.out, HG28.out, HZ8.out, HB8.out, Nat.le_refl _⟩
      ·have hge : s.size ≤ i := by omega
       have hii : ¬ (i : Int) < (s.size : Int) := by omega
       have HDE : Hid (wr.rowIs D 4 (s.size + 1) (fun j => .bool (decide (0 < j ∧ j < s.size) && foundF (rs.take (k + 1)) s j))) := HDi.out.congr fun j hj => by
        by_cases h : j < i
        ·rw [if_pos h]
        ·rw [if_neg h, decide_eq_false (by omega)]; rfl
       have HKE : Hid (wr.rowIs K 4 (s.size + 1) (fun j => .bool (decide (0 < j ∧ j < s.size) && decideF (rs.take (k + 1)) s j))) := HKi.out.congr fun j hj => by
        by_cases h : j < i
        ·rw [if_pos h]
        ·rw [if_neg h, decide_eq_false (by omega)]; rfl
       go_wp2_with fail
       go_roundg (xs.length - (k + 1))
       case measure => omega
       case rel => exact ⟨k + 1, by go_num, by omega, HDE.out, HKE.out, HBi.out, Nat.le_refl _⟩
    ·simp only [Act.put, List.setIfInBounds_toArray, List.set_cons_zero, List.set_cons_succ]
     refine wpAny_call 3 (some 38) (by kernel_rfl) rfl rfl (by kernel_rfl) 102 (#[.slice uA un uc, .string s]) (by go_simp) (ends_any r.bf s _ wr4.drew HU4.out (by omega) hbl0) ?_
     rintro e w5 ⟨g1, rfl, hg1, hr1, hb5⟩
     refine ⟨_, rfl, ?_⟩
     have HL3 : Hid (∀ w', w'.heap = w5.heap → (Instr.loadAt 108 (.pointer (some ⟨q, 2, none⟩))).run Tryz.prog w' = .ok (.slice tA tn tc) w') := fun w' hw' => ld_slice (by rw [World.cell?_of_block (w := w5) (by rw [hw'])]; exact (hb5.cell (p := ⟨q, 2, none⟩) hq4).trans z2)
     change wpAny _ _ _ _ _ _ (Act.put _ (some 38) _) _
     refine wpAny_call 6 (some 41) (by kernel_rfl) rfl rfl (by kernel_rfl) 103 (#[.slice tA tn tc]) (by go_simp) (revp_any r.af _ w5 ((show RdE atC 34 wr4.drew _ _ from HT4.out).below hb5 (Nat.le_refl _)) hal0) ?_
     rintro e w6 ⟨v6, rfl, hr6, hb6⟩
     refine ⟨_, rfl, ?_⟩
     change wpAny _ _ _ _ _ _ (Act.put _ (some 41) _) _
     refine wpAny_call 8 (some 43) (by kernel_rfl) rfl rfl (by kernel_rfl) 102 (#[v6, .string bk]) (by go_simp) (ends_any r.af.reverse bk v6 w6 hr6 (by omega) (by simp; omega)) ?_
     rintro e w7 ⟨g2, rfl, hg2, hr2, hb7⟩
     refine ⟨_, rfl, ?_⟩
     rw [hbks]
     change wpAny _ _ _ _ _ _ (Act.put _ (some 43) _) _
     refine zzG 9 (.slice (some ⟨g1, 0, none⟩) (s.size + 1) (s.size + 1)) (some 10) rfl ?_
     refine zzG 10 (.slice (some ⟨g2, 0, none⟩) (s.size + 1) (s.size + 1)) (some 11) rfl ?_
     refine wpAny_done (by kernel_rfl) ?_ _
     simp only [Act.put, List.setIfInBounds_toArray, List.set_cons_zero, List.set_cons_succ]
     rw [hbks] at hr2
     have HG1 : Hid (w7.rowIs g1 4 (s.size + 1) (fun j => .bool (reachF s r.bf allF j))) := (hr1.of_block (hb6.block _ hr1.lt)).of_block (hb7.block _ (hr1.of_block (hb6.block _ hr1.lt)).lt)
     have HG2 : Hid (w7.rowIs g2 4 (s.size + 1) (fun j => .bool (reachF bk r.af.reverse allF j))) := hr2
     have HBq : Hid (Below wr4.heap.size wr4 w7) := ((below_drewN (Below.refl _ wr4) 1).trans hb5).trans ((hb6.trans (hb7.mono hb6.size)).mono hb5.size)
     have HD7 := Lib.hid (HD4.out.of_block (HBq.out.block _ HD4.out.lt))
     have HK7 := Lib.hid (HK4.out.of_block (HBq.out.block _ HK4.out.lt))
     have HB7 := Lib.hid (HB4.out.trans (HBq.out.mono HB4.out.size))
     have z0w := (HBq.out.cell (p := ⟨q, 0, none⟩) hq4).trans z0
     have hg1q : q < g1 := Nat.lt_of_lt_of_le hq4 hg1
     have hg2q : q < g2 := Nat.lt_of_lt_of_le hq4 (Nat.le_trans (Nat.le_trans hb5.size hb6.size) hg2)
     clear hr1 hr2 hb5 hb6 hb7 HL3 hr6 HBq z0 z1 z2 HL1 HL2 HD4 HK4 HB4 HU4 HT4 HQ hq4
     go_wp2_with fail
     obtain ⟨wo2, HWO2⟩ : ∃ wo, Hid (wo = w7) := ⟨w7, rfl⟩
     go_loopg [12] (s.size + 1) (fun gk iv wr => ∃ i : Nat, iv = .int .i64 i ∧ 1 ≤ i ∧ i ≤ s.size + 1 ∧ Hid (wr.rowIs D 4 (s.size + 1) (fun j => .bool (if j < i then decide (0 < j ∧ j < s.size) && foundF (rs.take (k + 1)) s j else decide (0 < j ∧ j < s.size) && foundF (rs.take k) s j))) ∧ Hid (wr.rowIs K 4 (s.size + 1) (fun j => .bool (if j < i then decide (0 < j ∧ j < s.size) && decideF (rs.take (k + 1)) s j else decide (0 < j ∧ j < s.size) && decideF (rs.take k) s j))) ∧ Hid (wr.rowIs g1 4 (s.size + 1) (fun j => .bool (reachF s r.bf allF j))) ∧ Hid (wr.rowIs g2 4 (s.size + 1) (fun j => .bool (reachF bk r.af.reverse allF j))) ∧ wr.cell? ⟨q, 0, none⟩ = some (.bool r.br) ∧ Hid (Below w.heap.size w wr) ∧ s.size + 1 - i ≤ gk)
     case atStart => exact ⟨1, rfl, Nat.le_refl _, by omega, HD7.out.congr (fun j _ => by
      by_cases h : j < 1
      ·rw [if_pos h, show j = 0 by omega]; rfl
      ·rw [if_neg h]), HK7.out.congr (fun j _ => by
      by_cases h : j < 1
      ·rw [if_pos h, show j = 0 by omega]; rfl
      ·rw [if_neg h]), HG1.out, HG2.out, z0w, HB7.out, by omega⟩
     case round =>
      clear HD7 HK7 HG1 HG2 z0w HB7 HWO2
      obtain ⟨i, rfl, hi1, hi2, HDi, HKi, HG1i, HG2i, z0i, HBi, hgki⟩ := hrel
      by_cases hil : i < s.size
      ·have hii : (i : Int) < (s.size : Int) := by omega
       have hi0 : (0 : Int) ≤ (i : Int) := by omega
       have hi3 : (i : Int) < (s.size : Int) + 1 := by omega
       obtain ⟨t, ht⟩ : ∃ t, t + i = s.size := ⟨s.size - i, by omega⟩
       have hsub : (s.size : Int) - (i : Int) = (t : Int) := by omega
       have ht0 : (0 : Int) ≤ (t : Int) := by omega
       have ht1 : (t : Int) < (s.size : Int) + 1 := by omega
       have qd := HDi.out.cell (i := i) (by omega)
       rw [if_neg (Nat.lt_irrefl i), decide_eq_true ⟨hi1, hil⟩, Bool.true_and] at qd
       have qk := HKi.out.cell (i := i) (by omega)
       have qb := HG1i.out.cell (i := i) (by omega)
       rw [ends_suf r.bf s i (by omega)] at qb
       have qa := HG2i.out.cell (i := t) (by omega)
       rw [show t = s.size - i by omega, ends_pre r.af hbks HBT.out i (by omega), show s.size - i = t by omega] at qa
       have hnd : foundF (rs.take (k + 1)) s i = (foundF (rs.take k) s i || (suffixF r.bf (s.extract 0 i) && prefixF r.af (s.extract i s.size))) := by rw [HTK.out, found_snoc]; rfl
       have hnk : decideF (rs.take (k + 1)) s i = if foundF (rs.take k) s i = true then decideF (rs.take k) s i else ((suffixF r.bf (s.extract 0 i) && prefixF r.af (s.extract i s.size)) && r.br) := by rw [HTK.out, decide_snoc]; rfl
       have hno := decide_none (rs.take k) s i
       cases hfd : foundF (rs.take k) s i with
       | true =>
         rw [hfd] at qd
         have hnew1 : (decide (0 < i ∧ i < s.size) && foundF (rs.take (k + 1)) s i) = (decide (0 < i ∧ i < s.size) && foundF (rs.take k) s i) := by rw [hnd, hfd]; rfl
         have hnew2 : (decide (0 < i ∧ i < s.size) && decideF (rs.take (k + 1)) s i) = (decide (0 < i ∧ i < s.size) && decideF (rs.take k) s i) := by rw [hnk, if_pos hfd]
         clear hnd hnk hno
         have HDN : Hid (wr.rowIs D 4 (s.size + 1) (fun j => .bool (if j < i + 1 then decide (0 < j ∧ j < s.size) && foundF (rs.take (k + 1)) s j else decide (0 < j ∧ j < s.size) && foundF (rs.take k) s j))) := HDi.out.congr fun j hj => by
               by_cases h : j = i
               ·rw [if_neg (by omega), if_pos (by omega), h, hnew1]
               ·by_cases h2 : j < i
                ·rw [if_pos h2, if_pos (by omega)]
                ·rw [if_neg h2, if_neg (by omega)]
         have HKN : Hid (wr.rowIs K 4 (s.size + 1) (fun j => .bool (if j < i + 1 then decide (0 < j ∧ j < s.size) && decideF (rs.take (k + 1)) s j else decide (0 < j ∧ j < s.size) && decideF (rs.take k) s j))) := HKi.out.congr fun j hj => by
               by_cases h : j = i
               ·rw [if_neg (by omega), if_pos (by omega), h, hnew2]
               ·by_cases h2 : j < i
                ·rw [if_pos h2, if_pos (by omega)]
                ·rw [if_neg h2, if_neg (by omega)]
         clear hnew1 hnew2
         go_wp2_with fail
         go_roundg (s.size + 1 - (i + 1))
         case measure => omega
         case rel => exact ⟨i + 1, by go_num, by omega, by omega, HDN.out, HKN.out, HG1i.out, HG2i.out, z0i, HBi.out, Nat.le_refl _⟩
       | false =>
         rw [hfd] at qd
         cases hsb : suffixF r.bf (s.extract 0 i) with
         | false =>
           rw [hsb] at qb
           have hnew1 : (decide (0 < i ∧ i < s.size) && foundF (rs.take (k + 1)) s i) = (decide (0 < i ∧ i < s.size) && foundF (rs.take k) s i) := by rw [hnd, hfd, hsb]; rfl
           have hnew2 : (decide (0 < i ∧ i < s.size) && decideF (rs.take (k + 1)) s i) = (decide (0 < i ∧ i < s.size) && decideF (rs.take k) s i) := by rw [hnk, if_neg (by rw [hfd]; exact Bool.false_ne_true), hsb, hno hfd]; rfl
           clear hnd hnk hno
           have HDN : Hid (wr.rowIs D 4 (s.size + 1) (fun j => .bool (if j < i + 1 then decide (0 < j ∧ j < s.size) && foundF (rs.take (k + 1)) s j else decide (0 < j ∧ j < s.size) && foundF (rs.take k) s j))) := HDi.out.congr fun j hj => by
                    by_cases h : j = i
                    ·rw [if_neg (by omega), if_pos (by omega), h, hnew1]
                    ·by_cases h2 : j < i
                     ·rw [if_pos h2, if_pos (by omega)]
                     ·rw [if_neg h2, if_neg (by omega)]
           have HKN : Hid (wr.rowIs K 4 (s.size + 1) (fun j => .bool (if j < i + 1 then decide (0 < j ∧ j < s.size) && decideF (rs.take (k + 1)) s j else decide (0 < j ∧ j < s.size) && decideF (rs.take k) s j))) := HKi.out.congr fun j hj => by
                    by_cases h : j = i
                    ·rw [if_neg (by omega), if_pos (by omega), h, hnew2]
                    ·by_cases h2 : j < i
                     ·rw [if_pos h2, if_pos (by omega)]
                     ·rw [if_neg h2, if_neg (by omega)]
           clear hnew1 hnew2
           go_wp2_with fail
           go_roundg (s.size + 1 - (i + 1))
           case measure => omega
           case rel => exact ⟨i + 1, by go_num, by omega, by omega, HDN.out, HKN.out, HG1i.out, HG2i.out, z0i, HBi.out, Nat.le_refl _⟩
         | true =>
           rw [hsb] at qb
           cases hpa : prefixF r.af (s.extract i s.size) with
           | false =>
             rw [hpa] at qa
             have hnew1 : (decide (0 < i ∧ i < s.size) && foundF (rs.take (k + 1)) s i) = (decide (0 < i ∧ i < s.size) && foundF (rs.take k) s i) := by rw [hnd, hfd, hsb, hpa]; rfl
             have hnew2 : (decide (0 < i ∧ i < s.size) && decideF (rs.take (k + 1)) s i) = (decide (0 < i ∧ i < s.size) && decideF (rs.take k) s i) := by rw [hnk, if_neg (by rw [hfd]; exact Bool.false_ne_true), hsb, hpa, hno hfd]; rfl
             clear hnd hnk hno
             have HDN : Hid (wr.rowIs D 4 (s.size + 1) (fun j => .bool (if j < i + 1 then decide (0 < j ∧ j < s.size) && foundF (rs.take (k + 1)) s j else decide (0 < j ∧ j < s.size) && foundF (rs.take k) s j))) := HDi.out.congr fun j hj => by
              by_cases h : j = i
              ·rw [if_neg (by omega), if_pos (by omega), h, hnew1]
              ·by_cases h2 : j < i
               ·rw [if_pos h2, if_pos (by omega)]
               ·rw [if_neg h2, if_neg (by omega)]
             have HKN : Hid (wr.rowIs K 4 (s.size + 1) (fun j => .bool (if j < i + 1 then decide (0 < j ∧ j < s.size) && decideF (rs.take (k + 1)) s j else decide (0 < j ∧ j < s.size) && decideF (rs.take k) s j))) := HKi.out.congr fun j hj => by
              by_cases h : j = i
              ·rw [if_neg (by omega), if_pos (by omega), h, hnew2]
              ·by_cases h2 : j < i
               ·rw [if_pos h2, if_pos (by omega)]
               ·rw [if_neg h2, if_neg (by omega)]
             clear hnew1 hnew2
             go_wp2_with fail
             go_roundg (s.size + 1 - (i + 1))
             case measure => omega
             case rel => exact ⟨i + 1, by go_num, by omega, by omega, HDN.out, HKN.out, HG1i.out, HG2i.out, z0i, HBi.out, Nat.le_refl _⟩
           | true =>
             rw [hpa] at qa
             have hnew1 : foundF (rs.take (k + 1)) s i = true := by rw [hnd, hfd, hsb, hpa]; rfl
             have hnew2 : decideF (rs.take (k + 1)) s i = r.br := by rw [hnk, if_neg (by rw [hfd]; exact Bool.false_ne_true), hsb, hpa]; rfl
             clear hnd hnk hno
             have fd := HDi.out.frozen i
             have fk := HKi.out.frozen i
             have hne : ¬ D = K := by omega
             have hne2 : ¬ K = D := by omega
             have HD8 : Hid (((wr.drew.setCell ⟨D, i, none⟩ (.bool true)).setCell ⟨K, i, none⟩ (.bool r.br)).rowIs D 4 (s.size + 1) (fun j => .bool (if j < i + 1 then decide (0 < j ∧ j < s.size) && foundF (rs.take (k + 1)) s j else decide (0 < j ∧ j < s.size) && foundF (rs.take k) s j))) := ((HDi.out.drew.set i (.bool true)).of_block (Below.heap_setCell _ _ _ _ (show D ≠ K by omega))).congr fun j hj => by
              by_cases h : j = i
              ·rw [if_pos h, if_pos (by omega), h, hnew1, decide_eq_true ⟨hi1, hil⟩]; rfl
              ·rw [if_neg h]
               by_cases h2 : j < i
               ·rw [if_pos h2, if_pos (by omega)]
               ·rw [if_neg h2, if_neg (by omega)]
             have HK8 : Hid (((wr.drew.setCell ⟨D, i, none⟩ (.bool true)).setCell ⟨K, i, none⟩ (.bool r.br)).rowIs K 4 (s.size + 1) (fun j => .bool (if j < i + 1 then decide (0 < j ∧ j < s.size) && decideF (rs.take (k + 1)) s j else decide (0 < j ∧ j < s.size) && decideF (rs.take k) s j))) := ((HKi.out.drew.of_block (Below.heap_setCell _ _ _ _ (show K ≠ D by omega))).set i (.bool r.br)).congr fun j hj => by
              by_cases h : j = i
              ·rw [if_pos h, if_pos (by omega), h, hnew2, decide_eq_true ⟨hi1, hil⟩]; rfl
              ·rw [if_neg h]
               by_cases h2 : j < i
               ·rw [if_pos h2, if_pos (by omega)]
               ·rw [if_neg h2, if_neg (by omega)]
             have HG18 : Hid (((wr.drew.setCell ⟨D, i, none⟩ (.bool true)).setCell ⟨K, i, none⟩ (.bool r.br)).rowIs g1 4 (s.size + 1) (fun j => .bool (reachF s r.bf allF j))) := (HG1i.out.drew.of_block (Below.heap_setCell _ _ _ _ (show g1 ≠ D by omega))).of_block (Below.heap_setCell _ _ _ _ (show g1 ≠ K by omega))
             have HG28 : Hid (((wr.drew.setCell ⟨D, i, none⟩ (.bool true)).setCell ⟨K, i, none⟩ (.bool r.br)).rowIs g2 4 (s.size + 1) (fun j => .bool (reachF bk r.af.reverse allF j))) := (HG2i.out.drew.of_block (Below.heap_setCell _ _ _ _ (show g2 ≠ D by omega))).of_block (Below.heap_setCell _ _ _ _ (show g2 ≠ K by omega))
             have HZ8 : Hid (((wr.drew.setCell ⟨D, i, none⟩ (.bool true)).setCell ⟨K, i, none⟩ (.bool r.br)).cell? ⟨q, 0, none⟩ = some (.bool r.br)) := by
              show _ = _
              rw [World.cell?_of_block (w := wr.drew.setCell ⟨D, i, none⟩ (.bool true)) (Below.heap_setCell _ _ _ _ (show q ≠ K by omega)), World.cell?_of_block (w := wr.drew) (Below.heap_setCell _ _ _ _ (show q ≠ D by omega))]
              exact z0i
             have HB8 : Hid (Below w.heap.size w ((wr.drew.setCell ⟨D, i, none⟩ (.bool true)).setCell ⟨K, i, none⟩ (.bool r.br))) := (HBi.out.drew.setCell (p := ⟨D, i, none⟩) (show w.heap.size ≤ D by omega) _).setCell (p := ⟨K, i, none⟩) (show w.heap.size ≤ K by omega) _
             go_upto_region 14 with fail
             go_region
             go_wp2_with fail
             go_roundg (s.size + 1 - (i + 1))
             case measure => omega
             case rel => exact ⟨i + 1, by go_num, by omega, by omega, HD8.out, HK8.out, HG18.out, HG28.out, HZ8.out, HB8.out, Nat.le_refl _⟩
      ·have hge : s.size ≤ i := by omega
       have hii : ¬ (i : Int) < (s.size : Int) := by omega
       have HDE : Hid (wr.rowIs D 4 (s.size + 1) (fun j => .bool (decide (0 < j ∧ j < s.size) && foundF (rs.take (k + 1)) s j))) := HDi.out.congr fun j hj => by
        by_cases h : j < i
        ·rw [if_pos h]
        ·rw [if_neg h, decide_eq_false (by omega)]; rfl
       have HKE : Hid (wr.rowIs K 4 (s.size + 1) (fun j => .bool (decide (0 < j ∧ j < s.size) && decideF (rs.take (k + 1)) s j))) := HKi.out.congr fun j hj => by
        by_cases h : j < i
        ·rw [if_pos h]
        ·rw [if_neg h, decide_eq_false (by omega)]; rfl
       go_wp2_with fail
       go_roundg (xs.length - (k + 1))
       case measure => omega
       case rel => exact ⟨k + 1, by go_num, by omega, HDE.out, HKE.out, HBi.out, Nat.le_refl _⟩
   ·simp only [Act.put, List.setIfInBounds_toArray, List.set_cons_zero, List.set_cons_succ]
    refine wpAny_val 1 (some 36) (.slice uA un uc) (by kernel_rfl) rfl rfl (by kernel_rfl) (ex_load 108 _ (.pointer (some ⟨q, 1, none⟩)) _ rfl (by kernel_rfl) (HL1.out)) ?_
    refine wpAny_call 3 (some 38) (by kernel_rfl) rfl rfl (by kernel_rfl) 102 (#[.slice uA un uc, .string s]) (by go_simp) (ends_any r.bf s _ wr4.drew HU4.out (by omega) hbl0) ?_
    rintro e w5 ⟨g1, rfl, hg1, hr1, hb5⟩
    refine ⟨_, rfl, ?_⟩
    have HL3 : Hid (∀ w', w'.heap = w5.heap → (Instr.loadAt 108 (.pointer (some ⟨q, 2, none⟩))).run Tryz.prog w' = .ok (.slice tA tn tc) w') := fun w' hw' => ld_slice (by rw [World.cell?_of_block (w := w5) (by rw [hw'])]; exact (hb5.cell (p := ⟨q, 2, none⟩) hq4).trans z2)
    change wpAny _ _ _ _ _ _ (Act.put _ (some 38) _) _
    refine wpAny_call 6 (some 41) (by kernel_rfl) rfl rfl (by kernel_rfl) 103 (#[.slice tA tn tc]) (by go_simp) (revp_any r.af _ w5 ((show RdE atC 34 wr4.drew _ _ from HT4.out).below hb5 (Nat.le_refl _)) hal0) ?_
    rintro e w6 ⟨v6, rfl, hr6, hb6⟩
    refine ⟨_, rfl, ?_⟩
    change wpAny _ _ _ _ _ _ (Act.put _ (some 41) _) _
    refine wpAny_call 8 (some 43) (by kernel_rfl) rfl rfl (by kernel_rfl) 102 (#[v6, .string bk]) (by go_simp) (ends_any r.af.reverse bk v6 w6 hr6 (by omega) (by simp; omega)) ?_
    rintro e w7 ⟨g2, rfl, hg2, hr2, hb7⟩
    refine ⟨_, rfl, ?_⟩
    rw [hbks]
    change wpAny _ _ _ _ _ _ (Act.put _ (some 43) _) _
    refine zzG 9 (.slice (some ⟨g1, 0, none⟩) (s.size + 1) (s.size + 1)) (some 10) rfl ?_
    refine zzG 10 (.slice (some ⟨g2, 0, none⟩) (s.size + 1) (s.size + 1)) (some 11) rfl ?_
    refine wpAny_done (by kernel_rfl) ?_ _
    simp only [Act.put, List.setIfInBounds_toArray, List.set_cons_zero, List.set_cons_succ]
    rw [hbks] at hr2
    have HG1 : Hid (w7.rowIs g1 4 (s.size + 1) (fun j => .bool (reachF s r.bf allF j))) := (hr1.of_block (hb6.block _ hr1.lt)).of_block (hb7.block _ (hr1.of_block (hb6.block _ hr1.lt)).lt)
    have HG2 : Hid (w7.rowIs g2 4 (s.size + 1) (fun j => .bool (reachF bk r.af.reverse allF j))) := hr2
    have HBq : Hid (Below wr4.heap.size wr4 w7) := ((below_drewN (Below.refl _ wr4) 1).trans hb5).trans ((hb6.trans (hb7.mono hb6.size)).mono hb5.size)
    have HD7 := Lib.hid (HD4.out.of_block (HBq.out.block _ HD4.out.lt))
    have HK7 := Lib.hid (HK4.out.of_block (HBq.out.block _ HK4.out.lt))
    have HB7 := Lib.hid (HB4.out.trans (HBq.out.mono HB4.out.size))
    have z0w := (HBq.out.cell (p := ⟨q, 0, none⟩) hq4).trans z0
    have hg1q : q < g1 := Nat.lt_of_lt_of_le hq4 hg1
    have hg2q : q < g2 := Nat.lt_of_lt_of_le hq4 (Nat.le_trans (Nat.le_trans hb5.size hb6.size) hg2)
    clear hr1 hr2 hb5 hb6 hb7 HL3 hr6 HBq z0 z1 z2 HL1 HL2 HD4 HK4 HB4 HU4 HT4 HQ hq4
    go_wp2_with fail
    obtain ⟨wo2, HWO2⟩ : ∃ wo, Hid (wo = w7) := ⟨w7, rfl⟩
    go_loopg [12] (s.size + 1) (fun gk iv wr => ∃ i : Nat, iv = .int .i64 i ∧ 1 ≤ i ∧ i ≤ s.size + 1 ∧ Hid (wr.rowIs D 4 (s.size + 1) (fun j => .bool (if j < i then decide (0 < j ∧ j < s.size) && foundF (rs.take (k + 1)) s j else decide (0 < j ∧ j < s.size) && foundF (rs.take k) s j))) ∧ Hid (wr.rowIs K 4 (s.size + 1) (fun j => .bool (if j < i then decide (0 < j ∧ j < s.size) && decideF (rs.take (k + 1)) s j else decide (0 < j ∧ j < s.size) && decideF (rs.take k) s j))) ∧ Hid (wr.rowIs g1 4 (s.size + 1) (fun j => .bool (reachF s r.bf allF j))) ∧ Hid (wr.rowIs g2 4 (s.size + 1) (fun j => .bool (reachF bk r.af.reverse allF j))) ∧ wr.cell? ⟨q, 0, none⟩ = some (.bool r.br) ∧ Hid (Below w.heap.size w wr) ∧ s.size + 1 - i ≤ gk)
    case atStart => exact ⟨1, rfl, Nat.le_refl _, by omega, HD7.out.congr (fun j _ => by
     by_cases h : j < 1
     ·rw [if_pos h, show j = 0 by omega]; rfl
     ·rw [if_neg h]), HK7.out.congr (fun j _ => by
     by_cases h : j < 1
     ·rw [if_pos h, show j = 0 by omega]; rfl
     ·rw [if_neg h]), HG1.out, HG2.out, z0w, HB7.out, by omega⟩
    case round =>
     clear HD7 HK7 HG1 HG2 z0w HB7 HWO2
     obtain ⟨i, rfl, hi1, hi2, HDi, HKi, HG1i, HG2i, z0i, HBi, hgki⟩ := hrel
     by_cases hil : i < s.size
     ·have hii : (i : Int) < (s.size : Int) := by omega
      have hi0 : (0 : Int) ≤ (i : Int) := by omega
      have hi3 : (i : Int) < (s.size : Int) + 1 := by omega
      obtain ⟨t, ht⟩ : ∃ t, t + i = s.size := ⟨s.size - i, by omega⟩
      have hsub : (s.size : Int) - (i : Int) = (t : Int) := by omega
      have ht0 : (0 : Int) ≤ (t : Int) := by omega
      have ht1 : (t : Int) < (s.size : Int) + 1 := by omega
      have qd := HDi.out.cell (i := i) (by omega)
      rw [if_neg (Nat.lt_irrefl i), decide_eq_true ⟨hi1, hil⟩, Bool.true_and] at qd
      have qk := HKi.out.cell (i := i) (by omega)
      have qb := HG1i.out.cell (i := i) (by omega)
      rw [ends_suf r.bf s i (by omega)] at qb
      have qa := HG2i.out.cell (i := t) (by omega)
      rw [show t = s.size - i by omega, ends_pre r.af hbks HBT.out i (by omega), show s.size - i = t by omega] at qa
      have hnd : foundF (rs.take (k + 1)) s i = (foundF (rs.take k) s i || (suffixF r.bf (s.extract 0 i) && prefixF r.af (s.extract i s.size))) := by rw [HTK.out, found_snoc]; rfl
      have hnk : decideF (rs.take (k + 1)) s i = if foundF (rs.take k) s i = true then decideF (rs.take k) s i else ((suffixF r.bf (s.extract 0 i) && prefixF r.af (s.extract i s.size)) && r.br) := by rw [HTK.out, decide_snoc]; rfl
      have hno := decide_none (rs.take k) s i
      cases hfd : foundF (rs.take k) s i with
      | true =>
        rw [hfd] at qd
        have hnew1 : (decide (0 < i ∧ i < s.size) && foundF (rs.take (k + 1)) s i) = (decide (0 < i ∧ i < s.size) && foundF (rs.take k) s i) := by rw [hnd, hfd]; rfl
        have hnew2 : (decide (0 < i ∧ i < s.size) && decideF (rs.take (k + 1)) s i) = (decide (0 < i ∧ i < s.size) && decideF (rs.take k) s i) := by rw [hnk, if_pos hfd]
        clear hnd hnk hno
        have HDN : Hid (wr.rowIs D 4 (s.size + 1) (fun j => .bool (if j < i + 1 then decide (0 < j ∧ j < s.size) && foundF (rs.take (k + 1)) s j else decide (0 < j ∧ j < s.size) && foundF (rs.take k) s j))) := HDi.out.congr fun j hj => by
         by_cases h : j = i
         ·rw [if_neg (by omega), if_pos (by omega), h, hnew1]
         ·by_cases h2 : j < i
          ·rw [if_pos h2, if_pos (by omega)]
          ·rw [if_neg h2, if_neg (by omega)]
        have HKN : Hid (wr.rowIs K 4 (s.size + 1) (fun j => .bool (if j < i + 1 then decide (0 < j ∧ j < s.size) && decideF (rs.take (k + 1)) s j else decide (0 < j ∧ j < s.size) && decideF (rs.take k) s j))) := HKi.out.congr fun j hj => by
         by_cases h : j = i
         ·rw [if_neg (by omega), if_pos (by omega), h, hnew2]
         ·by_cases h2 : j < i
          ·rw [if_pos h2, if_pos (by omega)]
          ·rw [if_neg h2, if_neg (by omega)]
        clear hnew1 hnew2
        go_wp2_with fail
        go_roundg (s.size + 1 - (i + 1))
        case measure => omega
        case rel => exact ⟨i + 1, by go_num, by omega, by omega, HDN.out, HKN.out, HG1i.out, HG2i.out, z0i, HBi.out, Nat.le_refl _⟩
      | false =>
        rw [hfd] at qd
        cases hsb : suffixF r.bf (s.extract 0 i) with
        | false =>
          rw [hsb] at qb
          have hnew1 : (decide (0 < i ∧ i < s.size) && foundF (rs.take (k + 1)) s i) = (decide (0 < i ∧ i < s.size) && foundF (rs.take k) s i) := by rw [hnd, hfd, hsb]; rfl
          have hnew2 : (decide (0 < i ∧ i < s.size) && decideF (rs.take (k + 1)) s i) = (decide (0 < i ∧ i < s.size) && decideF (rs.take k) s i) := by rw [hnk, if_neg (by rw [hfd]; exact Bool.false_ne_true), hsb, hno hfd]; rfl
          clear hnd hnk hno
          have HDN : Hid (wr.rowIs D 4 (s.size + 1) (fun j => .bool (if j < i + 1 then decide (0 < j ∧ j < s.size) && foundF (rs.take (k + 1)) s j else decide (0 < j ∧ j < s.size) && foundF (rs.take k) s j))) := HDi.out.congr fun j hj => by
               by_cases h : j = i
               ·rw [if_neg (by omega), if_pos (by omega), h, hnew1]
               ·by_cases h2 : j < i
                ·rw [if_pos h2, if_pos (by omega)]
                ·rw [if_neg h2, if_neg (by omega)]
          have HKN : Hid (wr.rowIs K 4 (s.size + 1) (fun j => .bool (if j < i + 1 then decide (0 < j ∧ j < s.size) && decideF (rs.take (k + 1)) s j else decide (0 < j ∧ j < s.size) && decideF (rs.take k) s j))) := HKi.out.congr fun j hj => by
               by_cases h : j = i
               ·rw [if_neg (by omega), if_pos (by omega), h, hnew2]
               ·by_cases h2 : j < i
                ·rw [if_pos h2, if_pos (by omega)]
                ·rw [if_neg h2, if_neg (by omega)]
          clear hnew1 hnew2
          go_wp2_with fail
          go_roundg (s.size + 1 - (i + 1))
          case measure => omega
          case rel => exact ⟨i + 1, by go_num, by omega, by omega, HDN.out, HKN.out, HG1i.out, HG2i.out, z0i, HBi.out, Nat.le_refl _⟩
        | true =>
          rw [hsb] at qb
          cases hpa : prefixF r.af (s.extract i s.size) with
          | false =>
            rw [hpa] at qa
            have hnew1 : (decide (0 < i ∧ i < s.size) && foundF (rs.take (k + 1)) s i) = (decide (0 < i ∧ i < s.size) && foundF (rs.take k) s i) := by rw [hnd, hfd, hsb, hpa]; rfl
            have hnew2 : (decide (0 < i ∧ i < s.size) && decideF (rs.take (k + 1)) s i) = (decide (0 < i ∧ i < s.size) && decideF (rs.take k) s i) := by rw [hnk, if_neg (by rw [hfd]; exact Bool.false_ne_true), hsb, hpa, hno hfd]; rfl
            clear hnd hnk hno
            have HDN : Hid (wr.rowIs D 4 (s.size + 1) (fun j => .bool (if j < i + 1 then decide (0 < j ∧ j < s.size) && foundF (rs.take (k + 1)) s j else decide (0 < j ∧ j < s.size) && foundF (rs.take k) s j))) := HDi.out.congr fun j hj => by
                    by_cases h : j = i
                    ·rw [if_neg (by omega), if_pos (by omega), h, hnew1]
                    ·by_cases h2 : j < i
                     ·rw [if_pos h2, if_pos (by omega)]
                     ·rw [if_neg h2, if_neg (by omega)]
            have HKN : Hid (wr.rowIs K 4 (s.size + 1) (fun j => .bool (if j < i + 1 then decide (0 < j ∧ j < s.size) && decideF (rs.take (k + 1)) s j else decide (0 < j ∧ j < s.size) && decideF (rs.take k) s j))) := HKi.out.congr fun j hj => by
                    by_cases h : j = i
                    ·rw [if_neg (by omega), if_pos (by omega), h, hnew2]
                    ·by_cases h2 : j < i
                     ·rw [if_pos h2, if_pos (by omega)]
                     ·rw [if_neg h2, if_neg (by omega)]
            clear hnew1 hnew2
            go_wp2_with fail
            go_roundg (s.size + 1 - (i + 1))
            case measure => omega
            case rel => exact ⟨i + 1, by go_num, by omega, by omega, HDN.out, HKN.out, HG1i.out, HG2i.out, z0i, HBi.out, Nat.le_refl _⟩
          | true =>
            rw [hpa] at qa
            have hnew1 : foundF (rs.take (k + 1)) s i = true := by rw [hnd, hfd, hsb, hpa]; rfl
            have hnew2 : decideF (rs.take (k + 1)) s i = r.br := by rw [hnk, if_neg (by rw [hfd]; exact Bool.false_ne_true), hsb, hpa]; rfl
            clear hnd hnk hno
            have fd := HDi.out.frozen i
            have fk := HKi.out.frozen i
            have hne : ¬ D = K := by omega
            have hne2 : ¬ K = D := by omega
            have HD8 : Hid (((wr.drew.setCell ⟨D, i, none⟩ (.bool true)).setCell ⟨K, i, none⟩ (.bool r.br)).rowIs D 4 (s.size + 1) (fun j => .bool (if j < i + 1 then decide (0 < j ∧ j < s.size) && foundF (rs.take (k + 1)) s j else decide (0 < j ∧ j < s.size) && foundF (rs.take k) s j))) := ((HDi.out.drew.set i (.bool true)).of_block (Below.heap_setCell _ _ _ _ (show D ≠ K by omega))).congr fun j hj => by
                    by_cases h : j = i
                    ·rw [if_pos h, if_pos (by omega), h, hnew1, decide_eq_true ⟨hi1, hil⟩]; rfl
                    ·rw [if_neg h]
                     by_cases h2 : j < i
                     ·rw [if_pos h2, if_pos (by omega)]
                     ·rw [if_neg h2, if_neg (by omega)]
            have HK8 : Hid (((wr.drew.setCell ⟨D, i, none⟩ (.bool true)).setCell ⟨K, i, none⟩ (.bool r.br)).rowIs K 4 (s.size + 1) (fun j => .bool (if j < i + 1 then decide (0 < j ∧ j < s.size) && decideF (rs.take (k + 1)) s j else decide (0 < j ∧ j < s.size) && decideF (rs.take k) s j))) := ((HKi.out.drew.of_block (Below.heap_setCell _ _ _ _ (show K ≠ D by omega))).set i (.bool r.br)).congr fun j hj => by
                    by_cases h : j = i
                    ·rw [if_pos h, if_pos (by omega), h, hnew2, decide_eq_true ⟨hi1, hil⟩]; rfl
                    ·rw [if_neg h]
                     by_cases h2 : j < i
                     ·rw [if_pos h2, if_pos (by omega)]
                     ·rw [if_neg h2, if_neg (by omega)]
            have HG18 : Hid (((wr.drew.setCell ⟨D, i, none⟩ (.bool true)).setCell ⟨K, i, none⟩ (.bool r.br)).rowIs g1 4 (s.size + 1) (fun j => .bool (reachF s r.bf allF j))) := (HG1i.out.drew.of_block (Below.heap_setCell _ _ _ _ (show g1 ≠ D by omega))).of_block (Below.heap_setCell _ _ _ _ (show g1 ≠ K by omega))
            have HG28 : Hid (((wr.drew.setCell ⟨D, i, none⟩ (.bool true)).setCell ⟨K, i, none⟩ (.bool r.br)).rowIs g2 4 (s.size + 1) (fun j => .bool (reachF bk r.af.reverse allF j))) := (HG2i.out.drew.of_block (Below.heap_setCell _ _ _ _ (show g2 ≠ D by omega))).of_block (Below.heap_setCell _ _ _ _ (show g2 ≠ K by omega))
            have HZ8 : Hid (((wr.drew.setCell ⟨D, i, none⟩ (.bool true)).setCell ⟨K, i, none⟩ (.bool r.br)).cell? ⟨q, 0, none⟩ = some (.bool r.br)) := by
                    show _ = _
                    rw [World.cell?_of_block (w := wr.drew.setCell ⟨D, i, none⟩ (.bool true)) (Below.heap_setCell _ _ _ _ (show q ≠ K by omega)), World.cell?_of_block (w := wr.drew) (Below.heap_setCell _ _ _ _ (show q ≠ D by omega))]
                    exact z0i
            have HB8 : Hid (Below w.heap.size w ((wr.drew.setCell ⟨D, i, none⟩ (.bool true)).setCell ⟨K, i, none⟩ (.bool r.br))) := (HBi.out.drew.setCell (p := ⟨D, i, none⟩) (show w.heap.size ≤ D by omega) _).setCell (p := ⟨K, i, none⟩) (show w.heap.size ≤ K by omega) _
            go_upto_region 14 with fail
            go_region
            go_wp2_with fail
            go_roundg (s.size + 1 - (i + 1))
            case measure => omega
            case rel => exact ⟨i + 1, by go_num, by omega, by omega, HD8.out, HK8.out, HG18.out, HG28.out, HZ8.out, HB8.out, Nat.le_refl _⟩
     ·have hge : s.size ≤ i := by omega
      have hii : ¬ (i : Int) < (s.size : Int) := by omega
      have HDE : Hid (wr.rowIs D 4 (s.size + 1) (fun j => .bool (decide (0 < j ∧ j < s.size) && foundF (rs.take (k + 1)) s j))) := HDi.out.congr fun j hj => by
       by_cases h : j < i
       ·rw [if_pos h]
       ·rw [if_neg h, decide_eq_false (by omega)]; rfl
      have HKE : Hid (wr.rowIs K 4 (s.size + 1) (fun j => .bool (decide (0 < j ∧ j < s.size) && decideF (rs.take (k + 1)) s j))) := HKi.out.congr fun j hj => by
       by_cases h : j < i
       ·rw [if_pos h]
       ·rw [if_neg h, decide_eq_false (by omega)]; rfl
      go_wp2_with fail
      go_roundg (xs.length - (k + 1))
      case measure => omega
      case rel => exact ⟨k + 1, by go_num, by omega, HDE.out, HKE.out, HBi.out, Nat.le_refl _⟩
  ·obtain rfl : k = xs.length := by omega
   have hki : ¬ (xs.length : Int) < (xs.length : Int) := by omega
   have HKF : Hid (wr.rowIs K 4 (s.size + 1) (fun j => .bool (rowB rs s j))) := HK.out.congr fun j hj => by
    rw [List.take_of_length_le hxb]; rfl
   have e0 : uptoN (rowB rs s) (s.size + 1) = breaksF rs s := breaks_row rs s (by omega)
   have E0 := Lib.hid e0
   clear HD HK e0
   obtain ⟨M, hM⟩ : ∃ M, Hid (M = wr.heap.size) := ⟨_, rfl⟩
   have hKM : K < M := by rw [hM.out]; exact HKF.out.lt
   have hwM : w.heap.size ≤ M := by rw [hM.out]; exact HB.out.size
   have hMw : M ≤ wr.heap.size := by rw [hM.out]; exact Nat.le_refl _
   go_wp2_with fail
   obtain ⟨wo3, HWO3⟩ : ∃ wo, Hid (wo = wr) := ⟨wr, rfl⟩
   go_loopg [13, 81] (s.size + 1) (fun gk ov kv wr => ∃ (k : Nat) (q : List Int) (A : Option Addr) (c : Nat), ov = .slice A q.length c ∧ kv = .int .i64 k ∧ k ≤ s.size + 1 ∧ Hid (q = uptoN (rowB rs s) k) ∧ Hid (OwnE 3 intC 1 wr M (.slice A q.length c) q) ∧ Hid (wr.rowIs K 4 (s.size + 1) (fun j => .bool (rowB rs s j))) ∧ M ≤ wr.heap.size ∧ Hid (Below w.heap.size w wr) ∧ q.length ≤ k ∧ s.size + 1 - k ≤ gk)
   case atStart => exact ⟨0, [], none, 0, rfl, rfl, by omega, rfl, OwnE.nil, HKF.out, hMw, HB.out, Nat.le_refl _, by omega⟩
   case round =>
    clear HKF HB hMw HWO3 hM
    obtain ⟨k, q, A, c, rfl, rfl, hk2, HQ, HO, HK2, hMr, HB2, hqk, hgk2⟩ := hrel
    by_cases hkl2 : k < s.size + 1
    ·have hkj : (k : Int) < (s.size : Int) + 1 := by omega
     have hk0 : (0 : Int) ≤ (k : Int) := by omega
     have qk := HK2.out.cell (i := k) hkl2
     have HQ2 : Hid (uptoN (rowB rs s) (k + 1) = q ++ if rowB rs s k = true then [(k : Int)] else []) := by show _ = _; rw [uptoN_succ, HQ.out]
     cases hb : rowB rs s k with
     | false =>
       rw [hb] at qk HQ2
       rw [if_neg Bool.false_ne_true, List.append_nil] at HQ2
       go_wp2_with fail
       go_roundg (s.size + 1 - (k + 1))
       case measure => omega
       case rel => exact ⟨k + 1, q, A, c, rfl, by go_num, by omega, HQ2.out.symm, HO.out, HK2.out, hMr, HB2.out, by omega, Nat.le_refl _⟩
     | true =>
       rw [hb] at qk HQ2
       rw [if_pos rfl] at HQ2
       go_wp2_with (at_builtin; go_must (refine wpList_app1 rfl (.tmp 87) (.tmp 89) 22 3 rfl Tryz.underlying22 _ 1 8 int_info6 rfl (by decide) M (.slice A q.length c) q.length (q.flatMap intC) rfl (own_below HO.out ((Below.refl _ wr).alloc (Nat.le_refl _) _) (Nat.le_refl _)) ⟨wr.heap.size, 0, none⟩ 1 (intC k) rfl rfl (cells_new wr (intC k) 3) (intC_oneA k) (by omega) (by decide) (by simp; omega) ?_); intro g9 cap w9 hown9 hbg9 hbel9 hgrow9)
       have hbn := hbel9 M wr (Nat.le_refl _) ((Below.refl M wr).alloc hMr (.cells (intC k).toArray 3))
       have HB9 := Lib.hid (HB2.out.trans (hbn.mono hwM))
       have HO9 : Hid (OwnE 3 intC 1 w9 M (.slice (some ⟨g9, 0, none⟩) (q.length + 1) cap) (q ++ [(k : Int)])) := OwnE.snoc hown9
       have HK9 := Lib.hid (HK2.out.of_block (hbn.block _ hKM))
       have hM9 := Nat.le_trans hMr hbn.size
       clear hown9 hbel9 hgrow9 hbn
       go_wp2_with fail
       go_roundg (s.size + 1 - (k + 1))
       case measure => omega
       case rel => exact ⟨k + 1, q ++ [(k : Int)], some ⟨g9, 0, none⟩, cap, by (show Value.slice _ _ _ = Value.slice _ _ _); rw [List.length_append]; rfl, by go_num, by omega, HQ2.out.symm, by (show OwnE _ _ _ _ _ _ _); rw [List.length_append]; exact HO9.out, HK9.out, hM9, HB9.out, by rw [List.length_append]; show q.length + 1 ≤ k + 1; omega, Nat.le_refl _⟩
    ·obtain rfl : k = s.size + 1 := by omega
     have hkj : ¬ (((s.size + 1 : Nat)) : Int) < (s.size : Int) + 1 := by omega
     have E1 : Hid (q = breaksF rs s) := HQ.out.trans E0.out
     go_wp2_with fail
     rw [HRR.out]
     have h := own_base HO.out hwM
     rw [← E1.out]
     exact ⟨_, rfl, h, HB2.out⟩
end Go.Proofs.YtfkojnofbpdjdaaGreatDoor

namespace Go.Proofs.YtfkojnofbpdjdaaGreatDoor
set_option maxRecDepth 100000
open Go.RowKit
def RuSmall (rs : List Ru) : Prop := rs.length ≤ 1000000 ∧ ∀ r ∈ rs, r.bf.length ≤ 1000000 ∧ r.af.length ≤ 1000000
end Go.Proofs.YtfkojnofbpdjdaaGreatDoor

namespace Go.Proofs.YtfkojnofbpdjdaaGreatDoor
set_option maxRecDepth 100000
def bnF (rs : List Ru) (s : ByteArray) : List Nat := if 1024 < s.size then [] else (List.range s.size).filter fun k => decide (0 < k) && decideF rs s k
theorem breaks_nat (rs : List Ru) (s : ByteArray) : breaksF rs s = (bnF rs s).map fun (k : Nat) => (k : Int) := by
 unfold breaksF bnF
 split <;> rfl
theorem bnF_asc (rs : List Ru) (s : ByteArray) : (0 :: bnF rs s).Pairwise (· ≤ ·) := by
 refine List.pairwise_cons.2 ⟨fun _ _ => Nat.zero_le _, ?_⟩
 unfold bnF
 split
 ·exact List.Pairwise.nil
 ·exact ((List.pairwise_lt_range (n := s.size)).filter _).imp fun h => Nat.le_of_lt h
theorem bnF_le (rs : List Ru) (s : ByteArray) : ∀ b ∈ bnF rs s, b < s.size := by
 unfold bnF
 intro b hb
 split at hb
 ·simp at hb
 ·exact List.mem_range.1 (List.mem_filter.1 hb).1
theorem bnF_len (rs : List Ru) (s : ByteArray) : (bnF rs s).length ≤ s.size := by
 unfold bnF
 split
 ·simp
 ·exact Nat.le_trans (List.length_filter_le _ _) (by simp)
def rangesF (rs : List Ru) (f : List Tk) : List (Nat × Nat) := rngF (sqF f) 0 (cutsF f (bnF rs (plS f)))
theorem cuts_ok (rs : List Ru) (f : List Tk) : AscF 0 (cutsF f (bnF rs (plS f))) (lenI f) := by
 have hs := plS_size f
 have h := cuts_asc f (bnF rs (plS f)) 0 (bnF_asc _ _) (fun b hb => by
  rcases List.mem_cons.1 hb with rfl | hb
  ·exact Nat.zero_le _
  ·have := bnF_le _ _ b hb
   omega)
 exact h.zero (by unfold cutsF; simp)
theorem cuts_len (f : List Tk) (bn : List Nat) : (cutsF f bn).length = bn.length + 1 := by unfold cutsF; simp
theorem cuts_at (f : List Tk) (bn : List Nat) (k : Nat) (h : k < bn.length) : (cutsF f bn)[k]? = some (placeP (posI f) bn[k]) := by
 unfold cutsF
 rw [List.getElem?_append_left (by simpa using h), List.getElem?_map, List.getElem?_eq_getElem h]
 rfl
theorem cuts_end (f : List Tk) (bn : List Nat) : (cutsF f bn)[bn.length]? = some (lenI f) := by
 unfold cutsF
 rw [List.getElem?_append_right (by simp)]
 simp
theorem placeF_nat (f : List Tk) (b : Nat) (h : b ≤ (plI f).length) : placeF f (b : Int) = (placeP (posI f) b : Nat) := by
 unfold placeF
 rw [if_neg (by omega), Int.toNat_natCast]
theorem sgF_yes (R : List (Bool × Bool)) (p q : Nat) (hR : ∀ c ∈ R, c.1 = true → c.2 = false) (hq : q ≤ R.length) (ha : ((R.take q).drop p).any (·.1) = true) : sgF R p q = [(frI R p, bkI R q)] ∧ p ≤ frI R p ∧ frI R p < bkI R q ∧ bkI R q ≤ q ∧ (∃ h : frI R p < R.length, R[frI R p].2 = false) ∧ (∃ h : bkI R q - 1 < R.length, R[bkI R q - 1].2 = false) := by
 obtain ⟨j, hj, h1, h2, h3, h4⟩ := any_pos R p q hR ha
 have e1 := frI_ge R p
 have e2 := frI_le R p j h1 hj h4
 have e3 := bkI_gt R q j h2 hq h4
 have e4 := bkI_le R q
 refine ⟨by unfold sgF; rw [if_pos ha], e1, by omega, e4, ?_, ?_⟩
 ·obtain ⟨k, hk, hkl, hks⟩ := frI_at R p j h1 hj h4
  rw [hk]
  exact ⟨hkl, hks⟩
 ·obtain ⟨k, hk, hkl, hks⟩ := bkI_at R q j h2 hq h4
  rw [hk]
  exact ⟨hkl, hks⟩
theorem sgF_no (R : List (Bool × Bool)) (p q : Nat) (ha : ((R.take q).drop p).any (·.1) ≠ true) : sgF R p q = [] := by unfold sgF; rw [if_neg ha]
theorem fr_space (R : List (Bool × Bool)) (x j : Nat) (h1 : x ≤ j) (h2 : j < frI R x) : (R.map (·.2))[j]? = some true := by
 obtain ⟨h, hs⟩ := frI_none R x j h1 h2
 rw [List.getElem?_map, List.getElem?_eq_getElem h]
 simp [hs]
theorem bk_space (R : List (Bool × Bool)) (y j : Nat) (hyl : y ≤ R.length) (h1 : bkI R y ≤ j) (h2 : j < y) : (R.map (·.2))[j]? = some true := by
 have hs := bkI_none R y j hyl h1 h2
 rw [List.getElem?_map, List.getElem?_eq_getElem (by omega)]
 simp [hs]
structure SegAt (S : List Bool) (p q x y : Nat) : Prop where
 px : p ≤ x
 xy : x < y
 yq : y ≤ q
 lead : ∀ j, p ≤ j → j < x → S[j]? = some true
 atx : S[x]? = some false
 tail : ∀ j, y ≤ j → j < q → S[j]? = some true
 aty : S[y - 1]? = some false
theorem segAt (f : List Tk) (p q : Nat) (hq : q ≤ lenI f) (ha : (plI (slI f 0 p q)).any (fun c => !spcB c) = true) : ∃ x y, sgF (sqF f) p q = [(x, y)] ∧ SegAt ((sqF f).map (·.2)) p q x y := by
 rw [plI_any, sqF_sl, Nat.sub_zero, Nat.sub_zero] at ha
 have hql : q ≤ (sqF f).length := by rw [sqF_len]; exact hq
 obtain ⟨h0, h1, h2, h3, ⟨h4, h5⟩, ⟨h6, h7⟩⟩ := sgF_yes (sqF f) p q (sqF_ex f) hql ha
 refine ⟨_, _, h0, h1, h2, h3, fun j a b => fr_space _ p j a b, ?_, fun j a b => bk_space _ q j hql a b, ?_⟩
 ·rw [List.getElem?_map, List.getElem?_eq_getElem h4, Option.map_some, h5]
 ·rw [List.getElem?_map, List.getElem?_eq_getElem h6, Option.map_some, h7]
theorem segNo (f : List Tk) (p q : Nat) (ha : (plI (slI f 0 p q)).any (fun c => !spcB c) ≠ true) : sgF (sqF f) p q = [] := by
 rw [plI_any, sqF_sl, Nat.sub_zero, Nat.sub_zero] at ha
 exact sgF_no _ _ _ ha
end Go.Proofs.YtfkojnofbpdjdaaGreatDoor

namespace Go.Proofs.YtfkojnofbpdjdaaGreatDoor
set_option maxRecDepth 100000
open Go.RowKit
theorem trim_any (s : ByteArray) (w : World) (hs : s.size ≤ maxLen) :
 Calls Tryz.prog 64 #[.string s] w fun e w' => ∃ x y : Nat, IsTrim s.data.toList x y ∧ e = .returned (.tuple #[.int .i64 x, .int .i64 y]) ∧ w = w' := by
 unfold maxLen at hs
 have hsz := Lib.size_eq s
 have HZ := Lib.hid hsz
 clear hsz
 go_enter Tryz.func64, Tryz.ntmps64
 go_wp2
 go_loop [2] (fun i => ∃ k : Nat, k ≤ s.size ∧ i = .int .i64 k ∧ Hid (∀ (j : Nat) (c : UInt8), j < k → s.data.toList[j]? = some c → clsN c.toNat = 2)) (fun i => s.size - (intOf i).toNat)
 case atStart => exact ⟨0, by omega, rfl, fun j c h => by omega⟩
 case round =>
  obtain ⟨k, hk, rfl, HR⟩ := hrel
  by_cases hlt : k < s.size
  ·have h255 : s[k].toNat < 256 := s[k].toNat_lt
   have hgk := Lib.hid (show s.data.toList[k]? = some s[k] from List.getElem?_eq_getElem (by rw [← Lib.size_eq]; exact hlt))
   by_cases hsp : clsN (s[k].toNat : Int) = 2
   ·have ht : (clsN (s[k].toNat : Int) == 2) = true := by rw [hsp]; rfl
    have HP := Lib.hid hsp
    clear hsp
    go_wp2_with (go_at_call 97; refine (of_any _ _ (by omega) (by omega)).mono ?_; rintro e w' ⟨rfl, rfl⟩)
    refine ⟨⟨k + 1, by omega, by go_num, fun j c hj hc => ?_⟩, by simp [intOf]; try omega⟩
    by_cases hjk : j = k
    ·subst hjk
     rw [hgk.out] at hc
     injection hc with hc
     subst hc
     exact HP.out
    ·exact HR.out j c (by omega) hc
   ·have ht : (clsN (s[k].toNat : Int) == 2) = false := by simpa using hsp
    have HP := Lib.hid hsp
    clear hsp
    go_wp2_with (go_at_call 97; refine (of_any _ _ (by omega) (by omega)).mono ?_; rintro e w' ⟨rfl, rfl⟩)
    go_loop [3] (fun i => ∃ u : Nat, k ≤ u ∧ u < s.size ∧ i = .int .i64 ((u : Int) + 1) ∧ Hid (∀ (j : Nat) (c : UInt8), u + 1 ≤ j → s.data.toList[j]? = some c → clsN c.toNat = 2)) (fun i => (intOf i).toNat)
    case atStart =>
     refine ⟨s.size - 1, by omega, by omega, by go_num, fun j c hj hc => ?_⟩
     have := (List.getElem?_eq_some_iff.1 hc).1
     rw [← HZ.out] at this
     omega
    case round =>
     obtain ⟨u, hu1, hu2, rfl, HU⟩ := hrel
     have h255' : s[u].toNat < 256 := s[u].toNat_lt
     have hgu := Lib.hid (show s.data.toList[u]? = some s[u] from List.getElem?_eq_getElem (by rw [← Lib.size_eq]; exact hu2))
     by_cases hsp2 : clsN (s[u].toNat : Int) = 2
     ·have hne : k ≠ u := by
       rintro rfl
       exact HP.out hsp2
      have ht2 : (clsN (s[u].toNat : Int) == 2) = true := by rw [hsp2]; rfl
      have HP2 := Lib.hid hsp2
      clear hsp2
      go_wp2_with (go_at_call 97; refine (of_any _ _ (by omega) (by omega)).mono ?_; rintro e w' ⟨rfl, rfl⟩)
      refine ⟨⟨u - 1, by omega, by omega, by go_num, fun j c hj hc => ?_⟩, by simp [intOf]; try omega⟩
      by_cases hju : j = u
      ·subst hju
       rw [hgu.out] at hc
       injection hc with hc
       subst hc
       exact HP2.out
      ·exact HU.out j c (by omega) hc
     ·have ht2 : (clsN (s[u].toNat : Int) == 2) = false := by simpa using hsp2
      have HP2 := Lib.hid hsp2
      clear hsp2
      have hne : ((k : Int) == (u : Int) + 1) = false := by simp; omega
      go_wp2_with (go_at_call 97; refine (of_any _ _ (by omega) (by omega)).mono ?_; rintro e w' ⟨rfl, rfl⟩)
      go_ret2
      refine ⟨k, u + 1, .inr ⟨by omega, by rw [← HZ.out]; omega, fun c hc => ?_, fun c hc => ?_, fun j c hj hc => HR.out j c hj hc, fun j c hj hc => HU.out j c hj hc⟩, by go_num, rfl⟩
      ·rw [hgk.out] at hc
       injection hc with hc
       subst hc
       exact HP.out
      ·rw [Nat.add_sub_cancel, hgu.out] at hc
       injection hc with hc
       subst hc
       exact HP2.out
  ·obtain rfl : k = s.size := by omega
   go_wp2
   go_loop [3] (fun i => i = .int .i64 (s.size : Nat)) (fun i => (intOf i).toNat)
   case atStart => rfl
   case round =>
    subst hrel
    go_wp2
    go_ret2
    refine ⟨0, 0, .inl ⟨rfl, rfl, fun j c hc => HR.out j c ?_ hc⟩, rfl, rfl⟩
    have := (List.getElem?_eq_some_iff.1 hc).1
    rw [← HZ.out] at this
    exact this
end Go.Proofs.YtfkojnofbpdjdaaGreatDoor

namespace Go.Proofs.YtfkojnofbpdjdaaGreatDoor
set_option maxRecDepth 100000
open Go.RowKit
def rangeC (r : Nat × Nat) : List Value := [.int .i64 (r.1 : Int), .int .i64 (r.2 : Int)]
theorem rangeC_two (r : Nat × Nat) : (rangeC r).length = 2 := rfl
theorem range_info : (Tryz.prog.info? 54).map (fun i => (i.zero, i.size, i.bytes)) = some (some (.agg #[.int .i64 0, .int .i64 0]), 2, 16) := by kernel_rfl
theorem range_one (r : Nat × Nat) : ∀ u ∈ rangeC r, u.oneCell' = true := by
 intro u hu
 simp [rangeC] at hu
 rcases hu with rfl | rfl <;> rfl
end Go.Proofs.YtfkojnofbpdjdaaGreatDoor

namespace Go.Proofs.YtfkojnofbpdjdaaGreatDoor
set_option maxRecDepth 100000
open Go.RowKit
theorem box2 {w : World} {b : Nat} {v0 v1 : Value} {t : TypeId} (h : w.heap[b]? = some (.cells #[v0, v1] t)) :
 w.cell? ⟨b, 0, none⟩ = some v0 ∧ w.cell? ⟨b, 1, none⟩ = some v1 ∧ w.frozen? ⟨b, 0, none⟩ = false ∧ w.frozen? ⟨b, 1, none⟩ = false :=
 ⟨by rw [cell_of_row _ _ 0 _ _ _ h]; rfl, by rw [cell_of_row _ _ 1 _ _ _ h]; rfl, frozen_of_row w b 0 _ _ h, frozen_of_row w b 1 _ _ h⟩
theorem rd_one {α : Type} {g : α → List Value} {w : World} {A : Option Addr} {n c : Nat} {l : List α} (h : RdE g 1 w (.slice A n c) l) (k : Nat) (x : α) (u : Value) (hx : l[k]? = some x) (hu : (g x)[0]? = some u) : ∃ b o, A = some ⟨b, o, none⟩ ∧ b < w.heap.size ∧ w.cell? ⟨b, o + k, none⟩ = some u := by
 obtain ⟨b, o, hA, hb, hc⟩ := h.cells (by have := (List.getElem?_eq_some_iff.1 hx).1; omega)
 refine ⟨b, o, hA, hb, ?_⟩
 have := hc k x 0 u hx hu
 rwa [show o + (k * 1 + 0) = o + k by omega] at this
theorem ranges_any (rs : List Ru) (vr : Value) (f : List Tk) (v : Value) (w : World) (hr : RdRu w vr rs) (hsm : RuSmall rs) (h1 : RdT w v f) (hl : lenI f ≤ 1000000) (hfl : f.length ≤ 100000) :
 Calls Tryz.prog 31 #[vr, v] w (RetOwn 54 rangeC 2 w (rangesF rs f)) := by
 obtain ⟨R, HRR⟩ : ∃ R, Hid (R = RetOwn 54 rangeC 2 w (rangesF rs f)) := ⟨_, rfl⟩
 rw [← HRR.out]
 obtain ⟨A, c, rfl, _, _⟩ := h1.shape
 have HPL := Lib.hid (iplain_any f _ w h1 (by omega) (by omega))
 have hps := plS_size f
 have hpl := plI_len f
 have HBR := Lib.hid (fun (u : World) (h : Below w.heap.size w u) => breaks_any rs vr (plS f) u (hr.below h (Nat.le_refl _)) hsm.1 hsm.2)
 have HRD := Lib.hid (fun (u : World) (h : Below w.heap.size w u) => RdE.below h1 h (Nat.le_refl _))
 have HCO := Lib.hid (cuts_ok rs f)
 have hbl := bnF_len rs (plS f)
 have HBL := Lib.hid (bnF_le rs (plS f))
 have HGO : Hid (rangesF rs f = rngF (sqF f) 0 (cutsF f (bnF rs (plS f)))) := rfl
 rw [breaks_nat] at HBR
 generalize bnF rs (plS f) = bn at HBR HCO hbl HBL HGO
 generalize plS f = s at HPL HBR hps hbl HBL
 have hcl := cuts_len f bn
 have HCA := Lib.hid (fun k (h : k < bn.length) => cuts_at f bn k h)
 have HCE := Lib.hid (cuts_end f bn)
 generalize cutsF f bn = cs at HCO HGO hcl HCA HCE
 obtain ⟨lv, hlv⟩ : ∃ lv, Hid (lv = lenI f) := ⟨_, rfl⟩
 have hbn : bn.length ≤ 1000000 := by omega
 clear h1 hr
 go_enter Tryz.func31, Tryz.ntmps31
 go_wp2_with (first
  | (go_at_call 60; refine HPL.out.mono ?_; rintro e w1 ⟨rfl, hb1⟩; have HB1 := Lib.hid hb1)
  | (go_at_call 59; refine (HBR.out _ HB1.out).mono ?_; rintro e w2 ⟨v2, rfl, ho2, hb2⟩; have HB2 := Lib.hid (HB1.out.trans (hb2.mono HB1.out.size)); obtain ⟨Ab, cb, hvb⟩ := own_shape ho2; rw [List.length_map] at hvb; subst hvb))
 have HRB := Lib.hid (OwnE.rd (f := intC) (m := 1) (fun _ => rfl) ho2)
 have hz2 := HB2.out.size
 have HPA := Lib.hid (fun (o : Int) (u : World) (h : Below w2.heap.size w2 u) => place5_any f _ o u (HRD.out u (HB2.out.trans (h.mono hz2))) hl (by omega))
 have HLN := Lib.hid (fun (u : World) (h : Below w2.heap.size w2 u) => ilength_any f _ u (HRD.out u (HB2.out.trans (h.mono hz2))) (by omega) (by omega))
 clear ho2 hb2 hb1 HB1 HPL HBR
 obtain ⟨wo, HWO⟩ : ∃ wo, Hid (wo = w2) := ⟨w2, rfl⟩
 go_loopg [5, 7, 23] bn.length (fun gk ov bv jv wr => ∃ (k : Nat) (q : List Int) (Ac : Option Addr) (cc : Nat), ov = .slice Ac q.length cc ∧ jv = .int .i64 k ∧ k ≤ bn.length ∧ Hid (q = (cs.map fun (x : Nat) => (x : Int)).take k) ∧ q.length ≤ k ∧ Hid (OwnE 3 intC 1 wr w2.heap.size (.slice Ac q.length cc) q) ∧ Hid (Below w2.heap.size w2 wr) ∧ bn.length - k ≤ gk)
 case atStart => exact ⟨0, [], none, 0, rfl, rfl, Nat.zero_le _, by (show _ = _); rw [List.take_zero], by simp, OwnE.nil, Below.refl _ _, by omega⟩
 case round =>
  clear HWO
  obtain ⟨k, q, Ac, cc, rfl, rfl, hk, HQ, hqk, HO, HB, hgk⟩ := hrel
  have hsz := HB.out.size
  by_cases hkl : k < bn.length
  ·have hki : (k : Int) < (bn.length : Int) := by omega
   have hk0 : (0 : Int) ≤ (k : Int) := by omega
   have hcsl : k < cs.length := by omega
   have hget : (bn.map fun (x : Nat) => (x : Int))[k]? = some (bn[k] : Int) := by rw [List.getElem?_map, List.getElem?_eq_getElem hkl]; rfl
   obtain ⟨b, o, rfl, hb, q1⟩ := rd_one HRB.out k _ _ hget rfl
   rw [← HB.out.cell (p := ⟨b, o + k, none⟩) hb] at q1
   have hbs := HBL.out _ (List.getElem_mem hkl)
   have HPK := Lib.hid (HPA.out (bn[k] : Int) wr HB.out)
   have hca : cs[k] = placeP (posI f) bn[k] := by
    have h := HCA.out k hkl
    rw [List.getElem?_eq_getElem hcsl] at h
    exact Option.some.inj h
   rw [placeF_nat f bn[k] (by omega), ← hca] at HPK
   clear hca
   have HQ2 : Hid (q ++ [(cs[k] : Int)] = (cs.map fun (x : Nat) => (x : Int)).take (k + 1)) := by
    show _ = _
    rw [List.take_succ_eq_append_getElem (by rw [List.length_map]; exact hcsl), ← HQ.out, List.getElem_map]
   generalize cs[k] = ck at HPK HQ2
   generalize bn[k] = bk at q1 HPK
   clear hget
   have hb2 : b < wr.heap.size := by omega
   go_wp2_with (first
    | (go_at_call 61; refine HPK.out.mono ?_; rintro e w3 ⟨rfl, hb3⟩; have HB3 := Lib.hid (HB.out.trans (hb3.mono hsz)); have HO3 := Lib.hid (own_below HO.out hb3 (Nat.le_refl _)); have hs3 := HB3.out.size; clear hb3 HB HO)
    | (at_builtin; go_must (refine wpList_app1 rfl (.tmp 27) (.tmp 31) 22 3 rfl Tryz.underlying22 _ 1 8 int_info6 rfl (by decide) w2.heap.size (.slice Ac q.length cc) q.length (q.flatMap intC) rfl (own_below HO3.out ((Below.refl _ w3).alloc (Nat.le_refl _) _) (Nat.le_refl _)) ⟨w3.heap.size, 0, none⟩ 1 (intC ck) rfl rfl (cells_new w3 (intC ck) 3) (intC_oneA ck) (by omega) (by decide) (by simp; omega) ?_); intro g9 cap w9 hown9 hbg9 hbel9 hgrow9))
   have hbn9 := hbel9 w2.heap.size w3 (Nat.le_refl _) ((Below.refl w2.heap.size w3).alloc hs3 (.cells (intC ck).toArray 3))
   have HB9 := Lib.hid (HB3.out.trans hbn9)
   have HO9 : Hid (OwnE 3 intC 1 w9 w2.heap.size (.slice (some ⟨g9, 0, none⟩) (q.length + 1) cap) (q ++ [(ck : Int)])) := OwnE.snoc hown9
   clear hown9 hbel9 hgrow9 hbn9
   go_wp2_with fail
   go_roundg (bn.length - (k + 1))
   case measure => omega
   case rel => exact ⟨k + 1, q ++ [(ck : Int)], some ⟨g9, 0, none⟩, cap, by (show Value.slice _ _ _ = Value.slice _ _ _); rw [List.length_append]; rfl, rfl, by omega, HQ2.out, by rw [List.length_append]; show q.length + 1 ≤ k + 1; omega, by (show OwnE _ _ _ _ _ _ _); rw [List.length_append]; exact HO9.out, HB9.out, by omega⟩
  ·obtain rfl : k = bn.length := by omega
   have HQ2 : Hid (q ++ [(lv : Int)] = (cs.map fun (x : Nat) => (x : Int))) := by
    show _ = _
    have h := List.take_succ_eq_append_getElem (l := cs.map fun (x : Nat) => (x : Int)) (i := bn.length) (by rw [List.length_map]; omega)
    have hce : cs[bn.length]'(by omega) = lenI f := by
     have h := HCE.out
     rw [List.getElem?_eq_getElem (by omega)] at h
     exact Option.some.inj h
    rw [List.take_of_length_le (by rw [List.length_map]; omega), ← HQ.out, List.getElem_map, hce, ← hlv.out] at h
    exact h.symm
   have hq1 : q.length + 1 = cs.length := by
    have := congrArg List.length HQ2.out
    rw [List.length_append, List.length_map] at this
    exact this
   have HQ1 := Lib.hid hq1
   have HLK := Lib.hid (HLN.out wr HB.out)
   rw [← hlv.out] at HLK
   have hlv2 : lv ≤ 1000000 := by have := hlv.out; omega
   clear hq1
   go_upto_region 8 with (first
    | (go_at_call 62; refine HLK.out.mono ?_; rintro e w3 ⟨rfl, hb3⟩; have HB3 := Lib.hid (HB.out.trans (hb3.mono hsz)); have HO3 := Lib.hid (own_below HO.out hb3 (Nat.le_refl _)); have hs3 := HB3.out.size; clear hb3 HB HO)
    | (at_builtin; go_must (refine wpList_app1 rfl (.tmp 34) (.tmp 37) 22 3 rfl Tryz.underlying22 _ 1 8 int_info6 rfl (by decide) w2.heap.size (.slice Ac q.length cc) q.length (q.flatMap intC) rfl (own_below HO3.out ((Below.refl _ w3).alloc (Nat.le_refl _) _) (Nat.le_refl _)) ⟨w3.heap.size, 0, none⟩ 1 (intC lv) rfl rfl (cells_new w3 (intC lv) 3) (intC_oneA lv) (by omega) (by decide) (by simp; omega) ?_); intro g9 cap w9 hown9 hbg9 hbel9 hgrow9))
   have hbn9 := hbel9 w2.heap.size w3 (Nat.le_refl _) ((Below.refl w2.heap.size w3).alloc hs3 (.cells (intC lv).toArray 3))
   have HB9 := Lib.hid (HB3.out.trans hbn9)
   have HO9 : Hid (OwnE 3 intC 1 w9 w2.heap.size (.slice (some ⟨g9, 0, none⟩) (q.length + 1) cap) (q ++ [(lv : Int)])) := OwnE.snoc hown9
   rw [HQ2.out, HQ1.out] at HO9
   rw [HQ1.out]
   have HRC := Lib.hid (OwnE.rd (f := intC) (m := 1) (fun _ => rfl) HO9.out)
   have HBW := Lib.hid (HB2.out.trans (HB9.out.mono hz2))
   clear hown9 hbel9 hgrow9 hbn9 HO9 HB9 HB3 HO3 hs3 HQ HQ2 HQ1 HRB HPA HLN hqk hgk hsz HBL HCA HCE hps hpl hbg9 hz2 HB2
   have HRC2 := HRC
   have HPLC := Lib.hid (fun (u : World) (h : Below w9.heap.size w9 u) => blanks_any f _ u (HRD.out u (HBW.out.trans (h.mono HBW.out.size))) (by omega) (by omega))
   go_wp2_with (go_at_call 63; refine (HPLC.out _ (Below.refl _ _)).mono ?_; rintro e w10 ⟨v10, rfl, ho10, hb10⟩)
   have hspl := spF_len f
   have HSP : Hid (spF f = (sqF f).map (·.2)) := rfl
   have HRS := Lib.hid (OwnE.rd boolC_len ho10)
   obtain ⟨As, cs10, hv10⟩ := own_shape ho10
   subst hv10
   have HBX := Lib.hid (HBW.out.trans (hb10.mono HBW.out.size))
   have HRCX := Lib.hid (HRC.out.below hb10 (Nat.le_refl _))
   have HSL := Lib.hid (fun (p q : Nat) (u : World) (h : Below w10.heap.size w10 u) (hpq : p ≤ q) (hq : q ≤ lenI f) => islice_any f _ p q u (HRD.out u (HBX.out.trans (h.mono HBX.out.size))) (by omega) (by omega) hpq hq)
   have HLS := Lib.hid (fun p q => slI_len f 0 p q)
   have HLW : Hid (∀ p q, lenI (slI f 0 p q) ≤ lenI f) := fun p q => by
    have h1 := posI_len (slI f 0 p q)
    rw [posI_sl, List.length_drop, List.length_take] at h1
    have h2 := posI_len f
    omega
   have HSA : Hid (∀ p t, t ≤ lenI f → (plI (slI f 0 p t)).any (fun c => !spcB c) = true → ∃ x y, sgF (sqF f) p t = [(x, y)] ∧ SegAt (spF f) p t x y) := fun p t ht ha => segAt f p t ht ha
   clear ho10 hb10 HPLC HRC HBW HRD
   clear HSP
   generalize spF f = S at HRS hspl HSA
   generalize lenI f = n at hl hspl HCO HSL HLW hlv HSA
   have HSPL := Lib.hid hspl
   clear hspl
   have hz10 := HBX.out.size
   obtain ⟨wo, HWO⟩ : ∃ wo, Hid (wo = w10) := ⟨w10, rfl⟩
   go_loopg [9, 10, 12, 13, 14, 15, 16, 17, 43] cs.length (fun gk ov fv tv pv sv lv hv rv jv wr => ∃ (k p : Nat) (q : List (Nat × Nat)) (Ac : Option Addr) (cc : Nat), ov = .slice Ac q.length cc ∧ fv = .int .i64 p ∧ jv = .int .i64 k ∧ k ≤ cs.length ∧ Hid (p = (0 :: cs).getD k 0) ∧ Hid (q = rngF (sqF f) 0 (cs.take k)) ∧ q.length ≤ k ∧ Hid (OwnE 54 rangeC 2 wr w10.heap.size (.slice Ac q.length cc) q) ∧ Hid (Below w10.heap.size w10 wr) ∧ cs.length - k ≤ gk)
   case atStart => exact ⟨0, 0, [], none, 0, rfl, rfl, rfl, Nat.zero_le _, rfl, by (show _ = _); rw [List.take_zero]; rfl, by simp, OwnE.nil, Below.refl _ _, by omega⟩
   case round =>
    clear HWO
    obtain ⟨k, p, q, Ac, cc, rfl, rfl, rfl, hk, HP, HQ, hqk, HO, HB, hgk⟩ := hrel
    have hsz := HB.out.size
    by_cases hkl : k < cs.length
    ·have hki : (k : Int) < (cs.length : Int) := by omega
     have hk0 : (0 : Int) ≤ (k : Int) := by omega
     obtain ⟨hpt, htn⟩ := AscF.at_ k hkl HCO.out
     rw [← HP.out] at hpt
     have HTK := Lib.hid (rngF_take (sqF f) cs 0 k hkl)
     rw [← HP.out, ← HQ.out] at HTK
     have HGT : Hid ((0 :: cs).getD (k + 1) 0 = cs[k]) := by
      show _ = _
      rw [List.getD_cons_succ, List.getD_eq_getElem?_getD, List.getElem?_eq_getElem hkl]
      rfl
     obtain ⟨b, o, hA, hb, q1⟩ := rd_one HRCX.out k _ _ (show (cs.map fun (x : Nat) => (x : Int))[k]? = some (cs[k] : Int) by rw [List.getElem?_map, List.getElem?_eq_getElem hkl]; rfl) rfl
     injection hA with hA
     injection hA with hA1 hA2 _
     subst hA1 hA2
     rw [← HB.out.cell (p := ⟨g9, 0 + k, none⟩) hb, Nat.zero_add] at q1
     have hb2 : g9 < wr.heap.size := by omega
     generalize cs[k] = t at hpt htn HTK HGT q1
     have ht2 : t ≤ 1000000 := by omega
     have HSK := Lib.hid (HSL.out p t wr HB.out hpt (by omega))
     have hgl := HLS.out p t
     have hgw := HLW.out p t
     have HST := Lib.hid (HSA.out p t (by omega))
     have HNO := Lib.hid (segNo f p t)
     generalize slI f 0 p t = g at HSK hgl hgw HST HNO
     have HPG := Lib.hid (fun (v : Value) (u : World) (h : RdT u v g) => iplain_any g v u h (by omega) (by omega))
     have hgs := plS_size g
     have hgp := plI_len g
     have HGL : Hid ((plS g).data.toList = plI g) := by show (plI g).toArray.toList = _; simp
     have HTR := Lib.hid (fun (u : World) => trim_any (plS g) u (by unfold maxLen; omega))
     rw [HGL.out] at HTR
     generalize plI g = gl at HTR HST HNO
     generalize plS g = gs at HPG HTR
     clear hgs hgp HGL
     by_cases ha : gl.any (fun c => !spcB c) = true
     ·obtain ⟨x, y, hsg, hat⟩ := HST.out ha
      rw [hsg] at HTK
      have HAT := Lib.hid hat
      have hpx := hat.px
      have hxy := hat.xy
      have hyt := hat.yq
      clear hsg hat HST HNO
      go_upto_region 17 with (first
       | (go_at_call 47; refine HSK.out.mono ?_; rintro e w3 ⟨v3, rfl, ho3, hb3⟩; obtain ⟨A3, c3, hv3⟩ := own_shape ho3; subst hv3; have HB3 := Lib.hid (HB.out.trans (hb3.mono hsz)); have HR3 := Lib.hid (OwnE.rd tkC_three ho3); have HO3 := Lib.hid (own_below HO.out hb3 (Nat.le_refl _)))
       | (go_at_call 60; refine (HPG.out _ _ HR3.out).mono ?_; rintro e w4 ⟨rfl, hb4⟩; have HB4 := Lib.hid (HB3.out.trans (hb4.mono HB3.out.size)); have HO4 := Lib.hid (own_below HO3.out hb4 (Nat.le_refl _)))
       | (go_at_call 64; refine (HTR.out _).mono ?_; rintro e w5 ⟨x9, y9, hT, rfl, rfl⟩; have hx9 := (trim_any_iff hT).2 ha; have hx9i : (x9 : Int) < (y9 : Int) := by omega))
      have HX : Hid ((w4.alloc (.cells #[.int .i64 (p : Int), .int .i64 (t : Int)] 54)).heap[w4.heap.size]? = some (.cells #[.int .i64 (p : Int), .int .i64 (t : Int)] 54)) := heap_alloc_new w4 _
      have HA := Lib.hid ((Below.refl w4.heap.size w4).alloc (Nat.le_refl _) (.cells #[.int .i64 (p : Int), .int .i64 (t : Int)] 54))
      have hz4 := HB4.out.size
      clear hb3 ho3 hb4 HR3 HB3 HO3 HO HB HSK HPG HTR hT hx9 q1 hb hb2
      go_wp2_with fail
      generalize w4.alloc (.cells #[.int .i64 (p : Int), .int .i64 (t : Int)] 54) = w5 at HX HA ⊢
      obtain ⟨r, hr⟩ : ∃ r, Hid (r = w4.heap.size) := ⟨_, rfl⟩
      rw [← hr.out] at HX ⊢
      have hr4 : w4.heap.size ≤ r := Nat.le_of_eq hr.out.symm
      obtain ⟨wo, HWO⟩ : ∃ wo, Hid (wo = w5) := ⟨w5, rfl⟩
      go_loopg [68] (x - p) (fun gk tv wr => ∃ j : Nat, p ≤ j ∧ j ≤ x ∧ Hid (wr.heap[r]? = some (.cells #[.int .i64 (j : Int), .int .i64 (t : Int)] 54)) ∧ Hid (Below w4.heap.size w4 wr) ∧ x - j ≤ gk)
      case atStart => exact ⟨p, Nat.le_refl _, hpx, HX.out, HA.out, by omega⟩
      case round =>
       clear HX HA HWO
       obtain ⟨j, hpj, hjx, HX, HA, hgj⟩ := hrel
       obtain ⟨x0, x1, y0, y1⟩ := box2 HX.out
       have hrl : r < wr.heap.size := (Array.getElem?_eq_some_iff.1 HX.out).1
       have HBJ := HB4.out.trans (HA.out.mono hz4)
       have hj0 : (0 : Int) ≤ (j : Int) := by omega
       by_cases hj : j < x
       ·have hS := HAT.out.lead j hpj hj
        have hjl : (j : Int) < (S.length : Int) := by have := (List.getElem?_eq_some_iff.1 hS).1; omega
        obtain ⟨bs, os, hAs, hbs, q3⟩ := rd_one HRS.out j true _ hS rfl
        subst hAs
        rw [← HBJ.cell (p := ⟨bs, os + j, none⟩) hbs] at q3
        clear hS HBJ hbs
        go_wp2_with fail
        have HX2 : Hid ((wr.setCell ⟨r, 0, none⟩ (.int .i64 ((j : Int) + 1))).heap[r]? = some (.cells #[.int .i64 ((j + 1 : Nat) : Int), .int .i64 (t : Int)] 54)) := set_rw1 HX.out 0 _
        have HA2 := Lib.hid (HA.out.setCell (p := ⟨r, 0, none⟩) hr4 (.int .i64 ((j : Int) + 1)))
        go_roundg (x - (j + 1))
        case measure => omega
        case rel => exact ⟨j + 1, by omega, by omega, HX2.out, HA2.out, by omega⟩
       ·obtain rfl : j = x := by omega
        have hS := HAT.out.atx
        have hjl : (j : Int) < (S.length : Int) := by have := (List.getElem?_eq_some_iff.1 hS).1; omega
        obtain ⟨bs, os, hAs, hbs, q3⟩ := rd_one HRS.out j false _ hS rfl
        subst hAs
        rw [← HBJ.cell (p := ⟨bs, os + j, none⟩) hbs] at q3
        clear hS HBJ hbs
        go_wp2_with fail
        clear q3 x0 x1 y0 y1 hrl
        obtain ⟨wo, HWO⟩ : ∃ wo, Hid (wo = wr) := ⟨wr, rfl⟩
        go_loopg [77] (t - y) (fun gk tv wr => ∃ m : Nat, y ≤ m + 1 ∧ m + 1 ≤ t ∧ Hid (wr.heap[r]? = some (.cells #[.int .i64 (j : Int), .int .i64 ((m : Int) + 1)] 54)) ∧ Hid (Below w4.heap.size w4 wr) ∧ m + 1 - y ≤ gk)
        case atStart => exact ⟨t - 1, by omega, by omega, by (show _ = _); rw [show ((t - 1 : Nat) : Int) + 1 = (t : Int) by omega]; exact HX.out, HA.out, by omega⟩
        case round =>
         clear HX HA HWO
         obtain ⟨m, hym, hmt, HX, HA, hgm⟩ := hrel
         obtain ⟨x0, x1, y0, y1⟩ := box2 HX.out
         have hrl : r < wr.heap.size := (Array.getElem?_eq_some_iff.1 HX.out).1
         have HBJ := HB4.out.trans (HA.out.mono hz4)
         have hm0 : (0 : Int) ≤ (m : Int) := by omega
         by_cases hm : y ≤ m
         ·have hS := HAT.out.tail m hm (by omega)
          have hml : (m : Int) < (S.length : Int) := by have := (List.getElem?_eq_some_iff.1 hS).1; omega
          obtain ⟨bs, os, hAs, hbs, q3⟩ := rd_one HRS.out m true _ hS rfl
          try (injection hAs with hAs; injection hAs with h1 h2 _; subst h1 h2)
          rw [← HBJ.cell (p := ⟨_, _ + m, none⟩) hbs] at q3
          clear hS HBJ hbs
          go_wp2_with fail
          have HX2 : Hid ((wr.setCell ⟨r, 1, none⟩ (.int .i64 (m : Int))).heap[r]? = some (.cells #[.int .i64 (j : Int), .int .i64 (((m - 1 : Nat) : Int) + 1)] 54)) := by
                 show _ = _
                 rw [show ((m - 1 : Nat) : Int) + 1 = (m : Int) by omega]
                 exact set_rw1 HX.out 1 _
          have HA2 := Lib.hid (HA.out.setCell (p := ⟨r, 1, none⟩) hr4 (.int .i64 (m : Int)))
          go_roundg (m - y)
          case measure => omega
          case rel => exact ⟨m - 1, by omega, by omega, HX2.out, HA2.out, by omega⟩
         ·obtain rfl : y = m + 1 := by omega
          have hS := HAT.out.aty
          rw [Nat.add_sub_cancel] at hS
          have hml : (m : Int) < (S.length : Int) := by have := (List.getElem?_eq_some_iff.1 hS).1; omega
          obtain ⟨bs, os, hAs, hbs, q3⟩ := rd_one HRS.out m false _ hS rfl
          try (injection hAs with hAs; injection hAs with h1 h2 _; subst h1 h2)
          rw [← HBJ.cell (p := ⟨_, _ + m, none⟩) hbs] at q3
          have HOJ := Lib.hid (World.ownsRow.alloc (own_below HO4.out HA.out (Nat.le_refl _)) (.cells (rangeC (j, m + 1)).toArray 54))
          have HBJ2 := Lib.hid HBJ
          have hzj := HBJ.size
          clear hS HBJ hbs
          go_wp2_with (at_builtin; go_must (refine wpList_app1 rfl (.tmp 85) (.tmp 87) 72 54 rfl Tryz.underlying72 _ 2 16 range_info rfl (by decide) w10.heap.size (.slice Ac q.length cc) q.length (q.flatMap rangeC) rfl (by exact HOJ.out) ⟨wr.heap.size, 0, none⟩ 1 (rangeC (j, m + 1)) rfl rfl (by exact cells_new _ _ _) (range_one _) (by omega) (by decide) (by simp; omega) ?_); intro g8 cap8 w8 hown8 hbg8 hbel8 hgr8)
          have HO8 : Hid (OwnE 54 rangeC 2 w8 w10.heap.size (.slice (some ⟨g8, 0, none⟩) (q.length + 1) cap8) (rngF (sqF f) 0 (cs.take (k + 1)))) := by
                 show OwnE _ _ _ _ _ _ _
                 rw [HTK.out]
                 exact OwnE.snoc (f := rangeC) hown8
          have HB8 := Lib.hid (hbel8 _ _ (Nat.le_refl _) (HBJ2.out.alloc hzj (.cells (rangeC (j, m + 1)).toArray 54)))
          have HL8 : Hid ((rngF (sqF f) 0 (cs.take (k + 1))).length = q.length + 1) := by
                 show _ = _
                 rw [HTK.out, List.length_append]
                 rfl
          clear hown8 hbel8 hgr8 q3 x0 x1 y0 y1
          go_wp2_with fail
          go_roundg (cs.length - (k + 1))
          case measure => omega
          case rel => exact ⟨k + 1, t, _, some ⟨g8, 0, none⟩, cap8, by rw [HL8.out], rfl, rfl, by omega, HGT.out.symm, rfl, by rw [HL8.out]; omega, by (show OwnE _ _ _ _ _ _ _); rw [HL8.out]; exact HO8.out, HB8.out, by omega⟩
     ·have HT2 : Hid (rngF (sqF f) 0 (cs.take (k + 1)) = q) := by
       show _ = _
       rw [HTK.out, HNO.out ha, List.append_nil]
      clear HST HNO
      go_wp2_with (first
       | (go_at_call 47; refine HSK.out.mono ?_; rintro e w3 ⟨v3, rfl, ho3, hb3⟩; obtain ⟨A3, c3, hv3⟩ := own_shape ho3; subst hv3; have HB3 := Lib.hid (HB.out.trans (hb3.mono hsz)); have HR3 := Lib.hid (OwnE.rd tkC_three ho3); have HO3 := Lib.hid (own_below HO.out hb3 (Nat.le_refl _)))
       | (go_at_call 60; refine (HPG.out _ _ HR3.out).mono ?_; rintro e w4 ⟨rfl, hb4⟩; have HB4 := Lib.hid (HB3.out.trans (hb4.mono HB3.out.size)); have HO4 := Lib.hid (own_below HO3.out hb4 (Nat.le_refl _)))
       | (go_at_call 64; refine (HTR.out _).mono ?_; rintro e w5 ⟨x9, y9, hT, rfl, rfl⟩; have hx9 : ¬ x9 < y9 := fun h => ha ((trim_any_iff hT).1 h); have hx9i : ¬ (x9 : Int) < (y9 : Int) := by omega))
      go_roundg (cs.length - (k + 1))
      case measure => omega
      case rel => exact ⟨k + 1, t, q, Ac, cc, rfl, rfl, rfl, by omega, HGT.out.symm, HT2.out.symm, by omega, HO4.out, HB4.out, by omega⟩
    ·obtain rfl : k = cs.length := by omega
     rw [List.take_length, ← HGO.out] at HQ
     go_wp2_with fail
     rw [HRR.out, ← HQ.out]
     exact ⟨_, rfl, own_base HO.out hz10, HBX.out.trans (HB.out.mono hz10)⟩
end Go.Proofs.YtfkojnofbpdjdaaGreatDoor

namespace Go.Proofs.YtfkojnofbpdjdaaGreatDoor
set_option maxRecDepth 100000
open Go.RowKit
def RetRules (w : World) (rs : List Ru) (e : Ending) (w' : World) : Prop := ∃ v, e = .returned v ∧ RdRu w' v rs ∧ Below w.heap.size w w'
end Go.Proofs.YtfkojnofbpdjdaaGreatDoor

namespace Go.Proofs.YtfkojnofbpdjdaaGreatDoor
set_option maxRecDepth 100000
open Go.RowKit
theorem place_math (x n : Int) (hn : 1 ≤ n) (hx : x < 0) : -n < x.tmod n ∧ x.tmod n ≤ 0 ∧ (x.tmod n < 0 → x % n = x.tmod n + n) ∧ (¬ x.tmod n < 0 → x % n = x.tmod n) := by
 have h1 : x.tmod n = -((-x) % n) := by
  have h := Int.neg_tmod (-x) n
  rw [Int.neg_neg] at h
  rw [h, Int.tmod_eq_emod_of_nonneg (by omega)]
 have h2 := Int.emod_nonneg (-x) (show n ≠ 0 by omega)
 have h3 := Int.emod_lt_of_pos (-x) (show 0 < n by omega)
 have h4 : x = x.tmod n + n * x.tdiv n := (Int.tmod_add_mul_tdiv x n).symm
 have h5 : x % n = (x.tmod n) % n := by
  conv => lhs; rw [h4]
  exact Int.add_mul_emod_self_left ..
 refine ⟨by omega, by omega, fun hl => ?_, fun hl => ?_⟩
 ·rw [h5, ← Int.add_emod_right, Int.emod_eq_of_lt (by omega) (by omega)]
 ·rw [h5, Int.emod_eq_of_lt (by omega) (by omega)]
theorem place_any (x n : Int) (w : World) (hx : IntIn x) (hn : 1 ≤ n) (hn2 : n ≤ 1000000) :
 Calls Tryz.prog 73 #[.int .i64 x, .int .i64 n] w fun e w' => e = .returned (.int .i64 (x % n)) ∧ w = w' := by
 obtain ⟨hx1, hx2⟩ := hx
 by_cases h : x < 0
 ·obtain ⟨q1, q2, q3, q4⟩ := place_math x n hn h
  by_cases hr : x.tmod n < 0
  ·have e := q3 hr
   go_enter Tryz.func73, Tryz.ntmps73
   go_wp2
   go_ret
   exact ⟨ret_int (by omega), rfl⟩
  ·have e := q4 hr
   go_enter Tryz.func73, Tryz.ntmps73
   go_wp2
   go_ret
   exact ⟨ret_int (by omega), rfl⟩
 ·go_enter Tryz.func73, Tryz.ntmps73
  have hb := Int.emod_nonneg x (show n ≠ 0 by omega)
  have hb2 := Int.emod_lt_of_pos x (show 0 < n by omega)
  go_wp2
  go_ret
  exact ⟨rfl, rfl⟩
end Go.Proofs.YtfkojnofbpdjdaaGreatDoor

namespace Go.Proofs.YtfkojnofbpdjdaaGreatDoor
set_option maxRecDepth 100000
open Go.RowKit
def nextN (L : List Int) (N : Nat) (n : Int) : Int := (L.getD N 0) % n
theorem nextN_bd (L : List Int) (N : Nat) (n : Int) (h : 1 ≤ n) : 0 ≤ nextN L N n ∧ nextN L N n < n :=
 ⟨Int.emod_nonneg _ (by omega), Int.emod_lt_of_pos _ (by omega)⟩
def words : List ByteArray := [⟨#[114, 101, 100]⟩, ⟨#[99, 97, 114]⟩, ⟨#[82, 101, 100]⟩, ⟨#[97]⟩, ⟨#[99, 97, 114, 115]⟩, ⟨#[49, 44, 53]⟩, ⟨#[50, 50]⟩, ⟨#[100, 111, 110, 39, 116]⟩, ⟨#[46]⟩, ⟨#[33]⟩, ⟨#[32]⟩, ⟨#[32, 32]⟩,
 ⟨#[60]⟩, ⟨#[38]⟩, ⟨#[123]⟩, ⟨#[34]⟩, ⟨#[92]⟩, ⟨#[120, 45, 121]⟩, ⟨#[10]⟩, ⟨#[61]⟩, ⟨#[125]⟩, ⟨#[62]⟩, ⟨#[9]⟩, ⟨#[98]⟩]
def mkWord (L : List Int) (N : Nat) : ByteArray := words.getD (nextN L N 24).toNat ⟨#[]⟩
theorem words_size : ∀ k, (words.getD k ⟨#[]⟩).size ≤ 5 := by
 intro k
 by_cases h : k < words.length
 ·have : ∀ x ∈ words, x.size ≤ 5 := by decide
  rw [List.getD_eq_getElem?_getD, List.getElem?_eq_getElem h]
  exact this _ (List.getElem_mem h)
 ·rw [List.getD_eq_getElem?_getD, List.getElem?_eq_none (by omega)]
  decide
def lineGo (L : List Int) : Nat → ByteArray → Nat → ByteArray × Nat
 | 0, out, N => (out, N)
 | i + 1, out, N =>
   if 0 < out.size then
    if 0 < nextN L (N + 1) 3 then lineGo L i (out ++ ⟨#[32]⟩ ++ mkWord L N) (N + 2) else lineGo L i (out ++ mkWord L N) (N + 2)
   else lineGo L i (out ++ mkWord L N) (N + 1)
def lineL (L : List Int) (N : Nat) (n : Int) : ByteArray × Nat := lineGo L (nextN L N (n + 1)).toNat ⟨#[]⟩ (N + 1)
theorem lineGo_bd (L : List Int) : ∀ i out N, (lineGo L i out N).1.size ≤ out.size + 6 * i ∧ (lineGo L i out N).2 ≤ N + 2 * i
 | 0, out, N => ⟨Nat.le_refl _, Nat.le_refl _⟩
 | i + 1, out, N => by
   have hw : (mkWord L N).size ≤ 5 := words_size _
   rw [lineGo]
   split
   ·split
    ·have h := lineGo_bd L i (out ++ ⟨#[32]⟩ ++ mkWord L N) (N + 2)
     rw [ByteArray.size_append, ByteArray.size_append] at h
     have h1 : (ByteArray.mk #[32]).size = 1 := rfl
     omega
    ·have h := lineGo_bd L i (out ++ mkWord L N) (N + 2)
     rw [ByteArray.size_append] at h
     omega
   ·have h := lineGo_bd L i (out ++ mkWord L N) (N + 1)
    rw [ByteArray.size_append] at h
    omega
theorem lineL_bd (L : List Int) (N : Nat) (n : Int) (h : 0 ≤ n) : (lineL L N n).1.size ≤ 6 * n.toNat ∧ (lineL L N n).2 ≤ N + 1 + 2 * n.toNat := by
 have h1 := nextN_bd L N (n + 1) (by omega)
 have h2 := lineGo_bd L (nextN L N (n + 1)).toNat ⟨#[]⟩ (N + 1)
 have h3 : (ByteArray.mk #[]).size = 0 := rfl
 unfold lineL
 omega
end Go.Proofs.YtfkojnofbpdjdaaGreatDoor

namespace Go.Proofs.YtfkojnofbpdjdaaGreatDoor
set_option maxRecDepth 100000
open Go.RowKit
structure But (g : Nat) (w w' : World) : Prop where
 os : w'.os = w.os
 tape : w'.tape = w.tape
 output : w'.output = w.output
 size : w.heap.size ≤ w'.heap.size
 block : ∀ k, k < w.heap.size → k ≠ g → w'.heap[k]? = w.heap[k]?
theorem But.refl (g : Nat) (w : World) : But g w w := ⟨rfl, rfl, rfl, Nat.le_refl _, fun _ _ _ => rfl⟩
theorem But.trans {g : Nat} {a b c : World} (h : But g a b) (k : But g b c) : But g a c :=
 ⟨k.os.trans h.os, k.tape.trans h.tape, k.output.trans h.output, Nat.le_trans h.size k.size, fun i hi hn => (k.block i (Nat.lt_of_lt_of_le hi h.size) hn).trans (h.block i hi hn)⟩
theorem But.of_below {g : Nat} {w w' : World} (h : Below w.heap.size w w') : But g w w' := ⟨h.os, h.tape, h.output, h.size, fun k hk _ => h.block k hk⟩
theorem But.alloc {g : Nat} {a w : World} (h : But g a w) (o : Obj) : But g a (w.alloc o) := h.trans (.of_below ((Below.refl _ _).alloc (Nat.le_refl _) o))
theorem But.drewN {g : Nat} {a w : World} (h : But g a w) (n : Nat) : But g a (w.drewN n) := ⟨h.os, h.tape, h.output, h.size, h.block⟩
theorem But.set {g : Nat} {a w : World} (h : But g a w) (o : Nat) (u : Value) : But g a (w.setCell ⟨g, o, none⟩ u) := by
 refine h.trans ⟨rfl, rfl, rfl, by simp [World.setCell], fun k hk hn => Below.heap_setCell _ _ _ _ hn⟩
def Nums (w : World) (g : Nat) (L : List Int) (N : Nat) : Prop := ∃ v W0, w.heap[g]? = some (.cells #[v, .int .i64 N] 29) ∧ RdE intC 1 W0 v L ∧ W0.heap.size ≤ g ∧ (∀ k, k < W0.heap.size → w.heap[k]? = W0.heap[k]?) ∧ (∀ x ∈ L, IntIn x)
theorem Nums.lt {w : World} {g : Nat} {L : List Int} {N : Nat} (h : Nums w g L N) : g < w.heap.size := by
 obtain ⟨v, W0, h, _⟩ := h
 exact (Array.getElem?_eq_some_iff.1 h).1
theorem Nums.keep {w w' : World} {g : Nat} {L : List Int} {N : Nat} (h : Nums w g L N) (hk : ∀ k, k < w.heap.size → w'.heap[k]? = w.heap[k]?) : Nums w' g L N := by
 have hlt := h.lt
 obtain ⟨v, W0, h1, h2, h3, h4, h5⟩ := h
 exact ⟨v, W0, (hk g hlt).trans h1, h2, h3, fun k hk' => (hk k (by omega)).trans (h4 k hk'), h5⟩
theorem Nums.alloc {w : World} {g : Nat} {L : List Int} {N : Nat} (h : Nums w g L N) (o : Obj) : Nums (w.alloc o) g L N := h.keep fun _ hk => Below.heap_alloc _ _ _ hk
def NumRet (g : Nat) (L : List Int) (N' : Nat) (v : Value) (w : World) (e : Ending) (w' : World) : Prop := e = .returned v ∧ But g w w' ∧ Nums w' g L N'
theorem frozen_rowM {w : World} {g : Nat} {cs : Array Value} {t : TypeId} (h : w.heap[g]? = some (.cells cs t)) (j : Nat) : w.frozen? ⟨g, j, none⟩ = false := by
 unfold World.frozen?
 rw [h]
 simp
theorem nums_next {w W0 : World} {g N : Nat} {L : List Int} {v : Value} (h1 : w.heap[g]? = some (.cells #[v, .int .i64 N] 29)) (h2 : RdE intC 1 W0 v L) (h3 : W0.heap.size ≤ g) (h4 : ∀ k, k < W0.heap.size → w.heap[k]? = W0.heap[k]?) (h5 : ∀ x ∈ L, IntIn x) (a : Nat) :
 Nums ((w.drewN a).setCell ⟨g, 1, none⟩ (.int .i64 ((N : Int) + 1))) g L (N + 1) := by
 refine ⟨v, W0, ?_, h2, h3, fun k hk => ?_, h5⟩
 ·have hh : (w.drewN a).heap[g]? = w.heap[g]? := rfl
  show ((w.drewN a).heap.modify g _)[g]? = _
  rw [Array.getElem?_modify, if_pos rfl, hh, h1]
  rfl
 ·rw [Below.heap_setCell _ _ _ _ (by show k ≠ g; omega)]
  exact h4 k hk
theorem next_any' (L : List Int) (g N : Nat) (n : Int) (w : World) (h : Nums w g L N) (hN : N ≤ 1000000000) (hn : 1 ≤ n) (hn2 : n ≤ 1000000) :
 Calls Tryz.prog 34 #[.pointer (some ⟨g, 0, none⟩), .int .i64 n] w (NumRet g L (N + 1) (.int .i64 (nextN L N n)) w) := by
 have hlt := h.lt
 obtain ⟨v, W0, h1, h2, h3, h4, h5⟩ := h
 have hrd : RdE intC 1 w v L := h2.keep (by omega) h4
 obtain ⟨A, c, rfl, _, _⟩ := hrd.shape
 have q1 : w.cell? ⟨g, 0, none⟩ = some (.slice A L.length c) := by rw [cell_of_row _ _ 0 _ _ _ h1]; rfl
 have q2 : w.cell? ⟨g, 1, none⟩ = some (.int .i64 N) := by rw [cell_of_row _ _ 1 _ _ _ h1]; rfl
 by_cases hNL : N < L.length
 ·obtain ⟨b, o, rfl, hbl, hx⟩ := RdE.cells hrd (by omega)
  have q3 := hx N _ 0 _ (List.getElem?_eq_getElem hNL) rfl
  simp only [Nat.mul_one, Nat.add_zero] at q3
  have hin := h5 _ (List.getElem_mem hNL)
  have hv : Hid (nextN L N n = L[N] % n) := by
   show nextN L N n = L[N] % n
   unfold nextN
   rw [List.getD_eq_getElem?_getD, List.getElem?_eq_getElem hNL]
   rfl
  generalize L[N] = x at q3 hin hv
  have q4 : w.frozen? ⟨g, 1, none⟩ = false := frozen_rowM h1 1
  have HN := nums_next h1 h2 h3 h4 h5
  go_enter Tryz.func34, Tryz.ntmps34
  go_wp2_with fail
  go_quiet (fail)
  go_wp2_with fail
  go_quiet (fail)
  go_wp2_with (go_at_call 73; refine (place_any x n _ hin hn hn2).mono ?_; rintro e w' ⟨rfl, rfl⟩)
  go_ret
  refine ⟨ret_int hv.out.symm, ?_, ?_⟩
  ·exact But.set (But.drewN (But.refl g w) _) 1 _
  ·exact HN _
 ·have hv : Hid (nextN L N n = 0 % n) := by
   show nextN L N n = 0 % n
   unfold nextN
   rw [List.getD_eq_getElem?_getD, List.getElem?_eq_none (by omega)]
   rfl
  have q4 : w.frozen? ⟨g, 1, none⟩ = false := frozen_rowM h1 1
  have HN := nums_next h1 h2 h3 h4 h5
  go_enter Tryz.func34, Tryz.ntmps34
  go_wp2_with fail
  go_quiet (fail)
  go_wp2_with (go_at_call 73; refine (place_any 0 n _ ⟨by omega, by omega⟩ hn hn2).mono ?_; rintro e w' ⟨rfl, rfl⟩)
  go_ret
  refine ⟨ret_int hv.out.symm, ?_, ?_⟩
  ·exact But.set (But.drewN (But.refl g w) _) 1 _
  ·exact HN _
theorem cells_strs (w : World) (g : Nat) (hg : w.heap.size = g) (xs : List ByteArray) (t : TypeId) (k : Nat) (h : k < xs.length) : (w.alloc (.cells (xs.map Value.string).toArray t)).cell? ⟨g, k, none⟩ = some (.string (xs.getD k ⟨#[]⟩)) := by
 subst hg
 have := cells_new w (xs.map Value.string) t k (.string (xs.getD k ⟨#[]⟩)) (by rw [List.getElem?_map, List.getElem?_eq_getElem h, List.getD_eq_getElem?_getD, List.getElem?_eq_getElem h]; rfl)
 rwa [Addr.add_lit, Nat.zero_add] at this
theorem word_any' (L : List Int) (g N : Nat) (w : World) (h : Nums w g L N) (hN : N ≤ 1000000000) :
 Calls Tryz.prog 74 #[.pointer (some ⟨g, 0, none⟩)] w (NumRet g L (N + 1) (.string (mkWord L N)) w) := by
 have H := Lib.hid (h.alloc (.cells (words.map Value.string).toArray 9))
 have hn := nextN_bd L N 24 (by omega)
 have HC := cells_strs w _ rfl words 9 (nextN L N 24).toNat (by show _ < 24; omega)
 have HW : Hid (words.getD (nextN L N 24).toNat ⟨#[]⟩ = mkWord L N) := by show words.getD (nextN L N 24).toNat ⟨#[]⟩ = mkWord L N; rfl
 have HB := Lib.hid (But.alloc (But.refl g w) (.cells (words.map Value.string).toArray 9))
 have HX := fun (X : World) (hb : But g (w.alloc (.cells (words.map Value.string).toArray 9)) X) => (World.cell?_of_block (a := ⟨w.heap.size, (nextN L N 24).toNat, none⟩) (hb.block w.heap.size (by simp) (by have := h.lt; omega))).trans HC
 have HXX := Lib.hid HX
 clear h HX HC
 go_enter Tryz.func74, Tryz.ntmps74
 go_wp2_with fail
 refine (next_any' L g N 24 _ (by exact H.out) hN (by decide) (by decide)).mono ?_
 rintro e w1 ⟨rfl, hb1, hn1⟩
 have q := HXX.out w1 (by exact hb1)
 have hb2 : But g w w1 := HB.out.trans (by exact hb1)
 rw [HW.out] at q
 generalize nextN L N 24 = z at hn q
 have hz : ((z.toNat : Nat) : Int) = z := by omega
 go_wp2_with fail
 go_ret
 exact ⟨rfl, hb2, hn1⟩
end Go.Proofs.YtfkojnofbpdjdaaGreatDoor

namespace Go.Proofs.YtfkojnofbpdjdaaGreatDoor
set_option maxRecDepth 100000
open Go.RowKit
def atE (m : Int) (b : Bool) : Array Value := #[.int .u8 0, .int .u8 0, .int .u8 0, .int .u8 0, .int .u8 0, .int .u8 0, .int .u8 0, .int .u8 0, .int .u8 0, .int .u8 0, .int .u8 0, .int .u8 0, .int .u8 0, .int .u8 0, .int .u8 0, .int .u8 0, .int .u8 0, .int .u8 0, .int .u8 0, .int .u8 0, .int .u8 0, .int .u8 0, .int .u8 0, .int .u8 0, .int .u8 0, .int .u8 0, .int .u8 0, .int .u8 0, .int .u8 0, .int .u8 0, .int .u8 0, .int .u8 0, .int .i64 m, .bool b]
theorem AtIn.lt {w : World} {g : Nat} {x : At} (h : AtIn w g x) : g < w.heap.size := (Array.getElem?_eq_some_iff.1 h).1
theorem AtIn.setSet {w : World} {g : Nat} {p : Nat → Bool} {mn : Int} {many : Bool} (h : AtIn w g ⟨p, mn, many⟩) (q : Nat → Bool) (k : Nat) (hk : k < 32) (hq : ∀ i, i < 32 → i ≠ k → byteOf q i = byteOf p i) : AtIn (w.setCell ⟨g, k, none⟩ (.int .u8 (byteOf q k : Nat))) g ⟨q, mn, many⟩ := by
 unfold AtIn at *
 rw [heap_setCell_same w g k _ _ _ h]
 congr 2
 have h1 := setC_set p q k hk hq
 rw [List.setIfInBounds_toArray] at h1 ⊢
 have h2 : (setC p).set k (.int .u8 (byteOf q k : Nat)) = setC q := by simpa using h1
 unfold atC
 rw [List.set_append_left _ _ (by rw [setC_length]; exact hk), h2]
end Go.Proofs.YtfkojnofbpdjdaaGreatDoor

namespace Go.Proofs.YtfkojnofbpdjdaaGreatDoor
set_option maxRecDepth 100000
open Go.RowKit
def dotP : Nat → Bool := addP noP 46
def stopP : Nat → Bool := addP dotP 33
def spcP : Nat → Bool := addP noP 32
def sentR : Ru := ⟨true, [⟨stopP, 1, false⟩], [⟨spcP, 1, false⟩]⟩
theorem dot_byte : ∀ i, i < 32 → i ≠ 5 → byteOf dotP i = byteOf noP i := by decide
theorem stop_byte : ∀ i, i < 32 → i ≠ 4 → byteOf stopP i = byteOf dotP i := by decide
theorem spc_byte : ∀ i, i < 32 → i ≠ 4 → byteOf spcP i = byteOf noP i := by decide
theorem zero2S (w : World) : AtIn ((w.alloc (.cells (atE 0 false) 107)).alloc (.cells (atE 0 false) 107)) (w.heap.size + 1) ⟨noP, 0, false⟩ := by
 have h := at_zero (w.alloc (.cells (atE 0 false) 107))
 rw [show (w.alloc (.cells (atE 0 false) 107)).heap.size = w.heap.size + 1 from Array.size_push ..] at h
 exact h
theorem zero3S (w : World) : AtIn ((w.alloc (.cells (atE 0 false) 107)).alloc (.cells (atE 0 false) 107)) w.heap.size ⟨noP, 0, false⟩ :=
 (at_zero w).keep (Below.heap_alloc _ _ _ (by show w.heap.size < (w.heap.push _).size; rw [Array.size_push]; omega))
theorem sent_any (w : World) : Calls Tryz.prog 19 #[] w (RetRules w [sentR]) := by
 obtain ⟨R, HRR⟩ : ∃ R, Hid (R = RetRules w [sentR]) := ⟨_, rfl⟩
 rw [← HRR.out]
 have HS2 := Lib.hid (zero2S w)
 have HS1 := Lib.hid (zero3S w)
 have HB2 : Hid (Below w.heap.size w ((w.alloc (.cells #[.int .u8 0, .int .u8 0, .int .u8 0, .int .u8 0, .int .u8 0, .int .u8 0, .int .u8 0, .int .u8 0, .int .u8 0, .int .u8 0, .int .u8 0, .int .u8 0, .int .u8 0, .int .u8 0, .int .u8 0, .int .u8 0, .int .u8 0, .int .u8 0, .int .u8 0, .int .u8 0, .int .u8 0, .int .u8 0, .int .u8 0, .int .u8 0, .int .u8 0, .int .u8 0, .int .u8 0, .int .u8 0, .int .u8 0, .int .u8 0, .int .u8 0, .int .u8 0, .int .i64 0, .bool false] 107)).alloc (.cells #[.int .u8 0, .int .u8 0, .int .u8 0, .int .u8 0, .int .u8 0, .int .u8 0, .int .u8 0, .int .u8 0, .int .u8 0, .int .u8 0, .int .u8 0, .int .u8 0, .int .u8 0, .int .u8 0, .int .u8 0, .int .u8 0, .int .u8 0, .int .u8 0, .int .u8 0, .int .u8 0, .int .u8 0, .int .u8 0, .int .u8 0, .int .u8 0, .int .u8 0, .int .u8 0, .int .u8 0, .int .u8 0, .int .u8 0, .int .u8 0, .int .u8 0, .int .u8 0, .int .i64 0, .bool false] 107))) := Lib.hid (((Below.refl _ w).alloc (Nat.le_refl _) _).alloc (by rw [show (w.alloc (.cells #[.int .u8 0, .int .u8 0, .int .u8 0, .int .u8 0, .int .u8 0, .int .u8 0, .int .u8 0, .int .u8 0, .int .u8 0, .int .u8 0, .int .u8 0, .int .u8 0, .int .u8 0, .int .u8 0, .int .u8 0, .int .u8 0, .int .u8 0, .int .u8 0, .int .u8 0, .int .u8 0, .int .u8 0, .int .u8 0, .int .u8 0, .int .u8 0, .int .u8 0, .int .u8 0, .int .u8 0, .int .u8 0, .int .u8 0, .int .u8 0, .int .u8 0, .int .u8 0, .int .i64 0, .bool false] 107)).heap.size = w.heap.size + 1 from Array.size_push ..]; omega) _)
 change Hid (AtIn ((w.alloc (.cells #[.int .u8 0, .int .u8 0, .int .u8 0, .int .u8 0, .int .u8 0, .int .u8 0, .int .u8 0, .int .u8 0, .int .u8 0, .int .u8 0, .int .u8 0, .int .u8 0, .int .u8 0, .int .u8 0, .int .u8 0, .int .u8 0, .int .u8 0, .int .u8 0, .int .u8 0, .int .u8 0, .int .u8 0, .int .u8 0, .int .u8 0, .int .u8 0, .int .u8 0, .int .u8 0, .int .u8 0, .int .u8 0, .int .u8 0, .int .u8 0, .int .u8 0, .int .u8 0, .int .i64 0, .bool false] 107)).alloc (.cells #[.int .u8 0, .int .u8 0, .int .u8 0, .int .u8 0, .int .u8 0, .int .u8 0, .int .u8 0, .int .u8 0, .int .u8 0, .int .u8 0, .int .u8 0, .int .u8 0, .int .u8 0, .int .u8 0, .int .u8 0, .int .u8 0, .int .u8 0, .int .u8 0, .int .u8 0, .int .u8 0, .int .u8 0, .int .u8 0, .int .u8 0, .int .u8 0, .int .u8 0, .int .u8 0, .int .u8 0, .int .u8 0, .int .u8 0, .int .u8 0, .int .u8 0, .int .u8 0, .int .i64 0, .bool false] 107)) (w.heap.size + 1) ⟨noP, 0, false⟩) at HS2
 change Hid (AtIn ((w.alloc (.cells #[.int .u8 0, .int .u8 0, .int .u8 0, .int .u8 0, .int .u8 0, .int .u8 0, .int .u8 0, .int .u8 0, .int .u8 0, .int .u8 0, .int .u8 0, .int .u8 0, .int .u8 0, .int .u8 0, .int .u8 0, .int .u8 0, .int .u8 0, .int .u8 0, .int .u8 0, .int .u8 0, .int .u8 0, .int .u8 0, .int .u8 0, .int .u8 0, .int .u8 0, .int .u8 0, .int .u8 0, .int .u8 0, .int .u8 0, .int .u8 0, .int .u8 0, .int .u8 0, .int .i64 0, .bool false] 107)).alloc (.cells #[.int .u8 0, .int .u8 0, .int .u8 0, .int .u8 0, .int .u8 0, .int .u8 0, .int .u8 0, .int .u8 0, .int .u8 0, .int .u8 0, .int .u8 0, .int .u8 0, .int .u8 0, .int .u8 0, .int .u8 0, .int .u8 0, .int .u8 0, .int .u8 0, .int .u8 0, .int .u8 0, .int .u8 0, .int .u8 0, .int .u8 0, .int .u8 0, .int .u8 0, .int .u8 0, .int .u8 0, .int .u8 0, .int .u8 0, .int .u8 0, .int .u8 0, .int .u8 0, .int .i64 0, .bool false] 107)) w.heap.size ⟨noP, 0, false⟩) at HS1
 go_enter Tryz.func19, Tryz.ntmps19
 go_upto_region 2 with fail
 generalize ((w.alloc (.cells #[.int .u8 0, .int .u8 0, .int .u8 0, .int .u8 0, .int .u8 0, .int .u8 0, .int .u8 0, .int .u8 0, .int .u8 0, .int .u8 0, .int .u8 0, .int .u8 0, .int .u8 0, .int .u8 0, .int .u8 0, .int .u8 0, .int .u8 0, .int .u8 0, .int .u8 0, .int .u8 0, .int .u8 0, .int .u8 0, .int .u8 0, .int .u8 0, .int .u8 0, .int .u8 0, .int .u8 0, .int .u8 0, .int .u8 0, .int .u8 0, .int .u8 0, .int .u8 0, .int .i64 0, .bool false] 107)).alloc (.cells #[.int .u8 0, .int .u8 0, .int .u8 0, .int .u8 0, .int .u8 0, .int .u8 0, .int .u8 0, .int .u8 0, .int .u8 0, .int .u8 0, .int .u8 0, .int .u8 0, .int .u8 0, .int .u8 0, .int .u8 0, .int .u8 0, .int .u8 0, .int .u8 0, .int .u8 0, .int .u8 0, .int .u8 0, .int .u8 0, .int .u8 0, .int .u8 0, .int .u8 0, .int .u8 0, .int .u8 0, .int .u8 0, .int .u8 0, .int .u8 0, .int .u8 0, .int .u8 0, .int .i64 0, .bool false] 107)) = w2 at HS2 HS1 HB2 ⊢
 generalize hg1 : w.heap.size = g1 at HS2 HS1 HB2 ⊢
 have HG1 := Lib.hid hg1
 clear hg1
 obtain ⟨g2, hg2⟩ : ∃ g2, Hid (g1 + 1 = g2) := ⟨_, rfl⟩
 rw [hg2.out] at HS2 ⊢
 have hgg : g1 < g2 := by have := hg2.out; omega
 have q1 := HS1.out.mn
 have q2 := HS1.out.free 32
 have q3 := HS2.out.mn
 have q4 := HS2.out.free 32
 go_upto_region 3 with fail
 have HS3 : Hid (AtIn ((w2.setCell ⟨g1, 32, none⟩ (.int .i64 1)).setCell ⟨g2, 32, none⟩ (.int .i64 1)) g1 ⟨noP, 1, false⟩) := Lib.hid ((HS1.out.setMn 1).keep (heap_setCell_other _ _ _ _ (by show g1 ≠ g2; omega)))
 have HT3 : Hid (AtIn ((w2.setCell ⟨g1, 32, none⟩ (.int .i64 1)).setCell ⟨g2, 32, none⟩ (.int .i64 1)) g2 ⟨noP, 1, false⟩) := Lib.hid (AtIn.setMn (HS2.out.keep (heap_setCell_other _ _ _ _ (by show g2 ≠ g1; omega))) 1)
 have HB3 := Lib.hid ((HB2.out.setCell (p := ⟨g1, 32, none⟩) (Nat.le_refl _) (.int .i64 1)).setCell (p := ⟨g2, 32, none⟩) (by show _ ≤ g2; omega) (.int .i64 1))
 generalize (w2.setCell ⟨g1, 32, none⟩ (.int .i64 1)).setCell ⟨g2, 32, none⟩ (.int .i64 1) = w3 at HS3 HT3 HB3 ⊢
 clear q1 q2 q3 q4 HS1 HS2 HB2
 have q1 : w3.cell? ⟨g1, 5, none⟩ = some (.int .u8 0) := HS3.out.range 5 _ (by rfl)
 have q2 := HS3.out.free 5
 go_upto_region 4 with fail
 have HS4 : Hid (AtIn (w3.setCell ⟨g1, 5, none⟩ (.int .u8 (bits BinOp.or .u8 0 64))) g1 ⟨dotP, 1, false⟩) := Lib.hid (HS3.out.setSet dotP 5 (by decide) dot_byte)
 have HT4 : Hid (AtIn (w3.setCell ⟨g1, 5, none⟩ (.int .u8 (bits BinOp.or .u8 0 64))) g2 ⟨noP, 1, false⟩) := Lib.hid (HT3.out.keep (heap_setCell_other _ _ _ _ (by show g2 ≠ g1; omega)))
 have HB4 := Lib.hid (HB3.out.setCell (p := ⟨g1, 5, none⟩) (Nat.le_refl _) (.int .u8 (bits BinOp.or .u8 0 64)))
 generalize w3.setCell ⟨g1, 5, none⟩ (.int .u8 (bits BinOp.or .u8 0 64)) = w4 at HS4 HT4 HB4 ⊢
 clear q1 q2 HS3 HT3 HB3
 have q1 : w4.cell? ⟨g1, 4, none⟩ = some (.int .u8 0) := HS4.out.range 4 _ (by rfl)
 have q2 := HS4.out.free 4
 go_upto_region 5 with fail
 have HS5 : Hid (AtIn (w4.setCell ⟨g1, 4, none⟩ (.int .u8 (bits BinOp.or .u8 0 2))) g1 ⟨stopP, 1, false⟩) := Lib.hid (HS4.out.setSet stopP 4 (by decide) stop_byte)
 have HT5 : Hid (AtIn (w4.setCell ⟨g1, 4, none⟩ (.int .u8 (bits BinOp.or .u8 0 2))) g2 ⟨noP, 1, false⟩) := Lib.hid (HT4.out.keep (heap_setCell_other _ _ _ _ (by show g2 ≠ g1; omega)))
 have HB5 := Lib.hid (HB4.out.setCell (p := ⟨g1, 4, none⟩) (Nat.le_refl _) (.int .u8 (bits BinOp.or .u8 0 2)))
 generalize w4.setCell ⟨g1, 4, none⟩ (.int .u8 (bits BinOp.or .u8 0 2)) = w5 at HS5 HT5 HB5 ⊢
 clear q1 q2 HS4 HT4 HB4
 have q1 : w5.cell? ⟨g2, 4, none⟩ = some (.int .u8 0) := HT5.out.range 4 _ (by rfl)
 have q2 := HT5.out.free 4
 go_upto_region 6 with fail
 have HT6 : Hid (AtIn (w5.setCell ⟨g2, 4, none⟩ (.int .u8 (bits BinOp.or .u8 0 1))) g2 ⟨spcP, 1, false⟩) := Lib.hid (HT5.out.setSet spcP 4 (by decide) spc_byte)
 have HS6 : Hid (AtIn (w5.setCell ⟨g2, 4, none⟩ (.int .u8 (bits BinOp.or .u8 0 1))) g1 ⟨stopP, 1, false⟩) := Lib.hid (HS5.out.keep (heap_setCell_other _ _ _ _ (by show g1 ≠ g2; omega)))
 have HB6 := Lib.hid (HB5.out.setCell (p := ⟨g2, 4, none⟩) (by show _ ≤ g2; omega) (.int .u8 (bits BinOp.or .u8 0 1)))
 generalize w5.setCell ⟨g2, 4, none⟩ (.int .u8 (bits BinOp.or .u8 0 1)) = w6 at HS6 HT6 HB6 ⊢
 clear q1 q2 HS5 HT5 HB5
 obtain ⟨sa, hsa⟩ : ∃ sa : At, Hid (sa = ⟨stopP, 1, false⟩) := ⟨⟨stopP, 1, false⟩, rfl⟩
 obtain ⟨ta, hta⟩ : ∃ ta : At, Hid (ta = ⟨spcP, 1, false⟩) := ⟨⟨spcP, 1, false⟩, rfl⟩
 rw [← hsa.out] at HS6
 rw [← hta.out] at HT6
 have HT7 := Lib.hid (HT6.out.keep (Below.heap_alloc w6 (.cells (atC sa).toArray 107) g2 HT6.out.lt))
 have hb7 := (HB6.out.alloc (by have := HB6.out.size; have := HG1.out; omega) (.cells (atC sa).toArray 107))
 have hb8 := hb7.alloc (by have := hb7.size; have := HG1.out; omega) (.cells (atC ta).toArray 107)
 have e7 : (w6.alloc (.cells (atC sa).toArray 107)).heap.size = w6.heap.size + 1 := by simp
 have hr1 := ((rdE_oneR atC 34 atC_len w6 w6.heap.size rfl sa 107).alloc (.cells (atC ta).toArray 107))
 have hr2 := rdE_oneR atC 34 atC_len (w6.alloc (.cells (atC sa).toArray 107)) (w6.heap.size + 1) e7 ta 107
 have HR1 := Lib.hid hr1
 have HR2 := Lib.hid hr2
 have HB8 := Lib.hid hb8
 clear hr1 hr2 hb8 hb7 e7
 go_wp2_with (first
  | (refine wpList_load_row rfl 107 (.tmp 1) rfl g1 rfl 107 (atC sa).toArray (0, 0) _ HS6.out Tryz.underlying107 rfl (by rw [atom_size, atC_size]) ?_; refine wpList_buildOne rfl (.tmp 23) (by rfl) sa (by rfl) ?_)
  | (refine wpList_load_row rfl 107 (.tmp 2) rfl g2 rfl 107 (atC ta).toArray (0, 0) _ HT7.out Tryz.underlying107 rfl (by rw [atom_size, atC_size]) ?_; refine wpList_buildOne rfl (.tmp 25) (by rfl) ta (by rfl) ?_))
 rw [HRR.out]
 have e8 : ((w6.alloc (.cells (atC sa).toArray 107)).alloc (.cells (atC ta).toArray 107)).heap.size = w6.heap.size + 1 + 1 := by simp
 have hr3 := rdE_oneR ruC 3 ruC_len ((w6.alloc (.cells (atC sa).toArray 107)).alloc (.cells (atC ta).toArray 107)) (w6.heap.size + 1 + 1) e8 (RuV.mk true ⟨some ⟨w6.heap.size, 0, none⟩, 1, 1⟩ ⟨some ⟨w6.heap.size + 1, 0, none⟩, 1, 1⟩) 110
 refine ⟨.slice (some ⟨w6.heap.size + 1 + 1, 0, none⟩) 1 1, rfl, ⟨_, hr3, rfl, fun i x r hx hr => ?_⟩, ?_⟩
 ·have hi : i = 0 := by have := (List.getElem?_eq_some_iff.1 hx).1; simpa using this
  subst hi
  obtain rfl := Option.some.inj hx
  obtain rfl := Option.some.inj hr
  refine ⟨rfl, ?_, ?_⟩
  ·have h := HR1.out.alloc (.cells (ruC (RuV.mk true ⟨some ⟨w6.heap.size, 0, none⟩, 1, 1⟩ ⟨some ⟨w6.heap.size + 1, 0, none⟩, 1, 1⟩)).toArray 110)
   have e : sentR.bf = [sa] := by rw [hsa.out]; rfl
   show RdE atC 34 _ _ sentR.bf
   rw [e]
   exact h
  ·have h := HR2.out.alloc (.cells (ruC (RuV.mk true ⟨some ⟨w6.heap.size, 0, none⟩, 1, 1⟩ ⟨some ⟨w6.heap.size + 1, 0, none⟩, 1, 1⟩)).toArray 110)
   have e : sentR.af = [ta] := by rw [hta.out]; rfl
   show RdE atC 34 _ _ sentR.af
   rw [e]
   exact h
 ·rw [HG1.out]
  exact HB8.out.alloc (by have := HB8.out.size; have := HG1.out; omega) _
end Go.Proofs.YtfkojnofbpdjdaaGreatDoor
