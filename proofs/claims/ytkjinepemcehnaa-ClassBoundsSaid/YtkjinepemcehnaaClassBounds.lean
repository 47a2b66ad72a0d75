/-
  The walk of the law ClassBounds.
-/
import Derived.Test.YtkjinepemcehnaaClassG
namespace Go.Proofs.Ytkjinepemcehnaa
open Go.RowKit

theorem u8_info : (Try.prog.info? 5).map (fun i => (i.zero, i.size, i.bytes)) = some (some (.int .u8 0), 1, 1) := by kernel_rfl

theorem nameL_z (k : Nat) : nameL (List.replicate k 122) = decide (1 ≤ k ∧ k ≤ 24) := by
  match k with
  | 0 => rfl
  | k + 1 =>
    rw [List.replicate_succ, nameL, List.length_replicate]
    have h1 : headB 122 = true := rfl
    have h2 : (List.replicate k (122 : UInt8)).all restB = true := by
      rw [List.all_eq_true]
      intro c hc
      rw [(List.mem_replicate.1 hc).2]
      rfl
    rw [h1, h2, Bool.and_true, Bool.and_true, decide_eq_decide]
    omega
theorem nameL_fz (k : Nat) (c : UInt8) : nameL (c :: List.replicate k 122) = (decide (k ≤ 23) && headB c) := by
  rw [nameL, List.length_replicate]
  have h2 : (List.replicate k (122 : UInt8)).all restB = true := by
    rw [List.all_eq_true]
    intro c hc
    rw [(List.mem_replicate.1 hc).2]
    rfl
  rw [h2, Bool.and_true]

set_option maxHeartbeats 1000000 in
theorem walk_ClassBounds (n f : Int) (w : World) (wn : (Lit.int .i64 n).wf = true) (wf : (Lit.int .u8 f).wf = true) :
    Calls Try.prog 6 #[.int .i64 n, .int .u8 f] w fun e w' => e = .returned (.bool true) ∧ Below w.heap.size w w' := by
  have hbd : 0 ≤ f ∧ f ≤ 255 := by simpa [Lit.wf, IntKind.min, IntKind.max, IntKind.signed, IntKind.bits] using wf
  obtain ⟨h0, h1⟩ := hbd
  obtain ⟨k, hk, hke⟩ := uint_rem n 40 (by omega) (by omega)
  have hke' : wrap64 ((IntKind.u64.wrap n).tmod 40) = (k : Int) := hke
  clear hke wn wf
  have hmk := fun w => run_make_row' (P := Try.prog) 23 5 (.int .u8 0) 1 Try.underlying23 u8_info rfl .i64 .i64 k (by omega) (by omega) w
  have c1 := fun w => isname_any ⟨(List.replicate k (122 : UInt8)).toArray⟩ w (by show (List.replicate k (122 : UInt8)).toArray.size ≤ maxLen; simp; unfold maxLen; omega)
  have e1 : nameL (⟨(List.replicate k (122 : UInt8)).toArray⟩ : ByteArray).data.toList = decide (1 ≤ k ∧ k ≤ 24) := nameL_z k
  rw [e1] at c1
  have C1 := Lib.hid c1
  clear c1 e1
  go_enter Try.func6, Try.ntmps6
  go_wp2
  rw [hke']
  clear hke' hmk
  go_loopw [16] (fun i wr => ∃ j : Nat, j ≤ k ∧ i = .int .i64 j ∧ Hid (RowV wr w.heap.size (List.replicate j (.int .u8 122) ++ List.replicate (k - j) (.int .u8 0))) ∧ Below w.heap.size w wr) (fun i _ => k - (intOf i).toNat)
  case atStart => exact ⟨0, by omega, rfl, (show RowV _ _ _ from by simpa using RowV.made w (.int .u8 0) k 5), (Below.refl _ _).alloc (Nat.le_refl _) _⟩
  case round =>
    obtain ⟨j, hj, rfl, HR, hb⟩ := hrel
    have hsize := hb.size
    by_cases hjk : j < k
    · have hx : (List.replicate j (Value.int .u8 122) ++ List.replicate (k - j) (.int .u8 0))[j]? = some (.int .u8 0) := by
        rw [List.getElem?_append_right (by simp), List.length_replicate, Nat.sub_self, List.getElem?_replicate, if_pos (by omega)]
      have hc := HR.out.cell hx
      have hf := HR.out.free (j := j) (by simp; omega)
      have hst : (List.replicate j (Value.int .u8 122) ++ List.replicate (k - j) (Value.int .u8 0)).set j (Value.int .u8 122) = List.replicate (j + 1) (Value.int .u8 122) ++ List.replicate (k - (j + 1)) (Value.int .u8 0) := by
        rw [List.set_append_right _ _ (by simp), List.length_replicate, Nat.sub_self, show k - j = (k - (j + 1)) + 1 from by omega, List.replicate_succ, List.set_cons_zero, List.replicate_succ', List.append_assoc]
        rfl
      have HS := Lib.hid hst
      clear hst hx
      go_wp2_with fail
      refine ⟨⟨j + 1, by omega, by go_num, ?_, hb.setCell (Nat.le_refl _) _⟩, by simp [intOf]; try omega⟩
      rw [← HS.out]
      exact HR.out.set j _
    · obtain rfl : j = k := by omega
      have hrow : RowV wr w.heap.size (List.replicate j (.int .u8 122)) := by simpa using HR.out
      have hback := run_convert_bytes_back (P := Try.prog) wr 23 9 5 ⟨w.heap.size, 0, none⟩ j (List.replicate j 122) Try.underlying23 Try.underlying5 Try.underlying9
        (fun i hi => by rw [Addr.add_lit, Nat.zero_add]; exact hrow.cell (by simp at hi; simp [hi]))
      rw [List.length_replicate] at hback
      have HBK := Lib.hid hback
      have HRO := Lib.hid hrow
      clear hback hrow HR
      by_cases hj0 : j = 0
      · subst hj0
        have hback := HBK.out
        have hB : decide (1 ≤ 0 ∧ 0 ≤ 24) = false := rfl
        have C2 := C1.out
        rw [hB] at C2
        have C3 := Lib.hid C2
        clear C2 hB C1
        go_wp2_with (first
          | (go_at_call 16; refine (C3.out _).mono ?_; rintro e w' ⟨rfl, rfl⟩)
          | (go_at_call 14; refine (known_any _).mono ?_; rintro e w' ⟨rfl, hb'⟩))
        go_ret
        exact ⟨rfl, hb.trans (hb'.mono hsize)⟩
      · have hne : ((j : Int) == 0) = false := by simp; omega
        have hc := HRO.out.cell (j := 0) (v := .int .u8 122) (by rw [List.getElem?_replicate, if_pos (by omega)])
        have hf := HRO.out.free (j := 0) (by rw [List.length_replicate]; omega)
        have hr2 := HRO.out.set 0 (.int .u8 f)
        obtain ⟨m, rfl⟩ : ∃ m, j = m + 1 := ⟨j - 1, by omega⟩
        rw [List.replicate_succ, List.set_cons_zero] at hr2
        have hcv : (Value.int .u8 f) = byteV (UInt8.ofNat f.toNat) := by
          unfold byteV
          congr 1
          rw [UInt8.toNat_ofNat']
          omega
        have hback2 := run_convert_bytes_back (P := Try.prog) (wr.setCell ⟨w.heap.size, 0, none⟩ (.int .u8 f)) 23 9 5 ⟨w.heap.size, 0, none⟩ (m + 1) (UInt8.ofNat f.toNat :: List.replicate m 122) Try.underlying23 Try.underlying5 Try.underlying9
          (fun i hi => by
            rw [Addr.add_lit, Nat.zero_add]
            match i, hi with
            | 0, _ => exact hr2.cell (by rw [hcv]; rfl)
            | i + 1, hi => exact hr2.cell (by simp at hi; simp [hi]))
        rw [List.length_cons, List.length_replicate] at hback2
        have c2 := fun w => isname_any ⟨(UInt8.ofNat f.toNat :: List.replicate m (122 : UInt8)).toArray⟩ w (by show (UInt8.ofNat f.toNat :: List.replicate m (122 : UInt8)).toArray.size ≤ maxLen; simp; unfold maxLen; omega)
        have e2 : nameL (⟨(UInt8.ofNat f.toNat :: List.replicate m (122 : UInt8)).toArray⟩ : ByteArray).data.toList = (decide (m ≤ 23) && headB (UInt8.ofNat f.toNat)) := nameL_fz m _
        have e3 : headB (UInt8.ofNat f.toNat) = decide (97 ≤ f ∧ f ≤ 122) := by
          unfold headB
          rw [UInt8.toNat_ofNat', decide_eq_decide]
          omega
        rw [e2, e3] at c2
        have C2 := Lib.hid c2
        have HB2 := Lib.hid hback2
        clear c2 e2 e3 hback2 hr2 hcv
        by_cases hfit : m ≤ 23
        · have hB : decide (1 ≤ m + 1 ∧ m + 1 ≤ 24) = true := by simp; omega
          have hB2 : decide (m ≤ 23) = true := by simp; omega
          have hd : decide ((m : Int) + 1 ≤ 24) = true := by simp; omega
          have C3 := C1.out
          have C4 := C2.out
          rw [hB] at C3
          rw [hB2, Bool.true_and] at C4
          by_cases hz : 97 ≤ f ∧ f ≤ 122
          · have hB3 : decide (97 ≤ f ∧ f ≤ 122) = true := by simpa using hz
            rw [hB3] at C4
            obtain ⟨hz1, hz2⟩ := hz
            have C5 := Lib.hid C3
            have C6 := Lib.hid C4
            clear hB hB2 hB3 C3 C4 C1 C2 hj0
            have hback := HBK.out
            have hback2 := HB2.out
            go_wp2_with fail
            refine (C5.out _).mono ?_
            rintro e w' ⟨rfl, rfl⟩
            go_wp2_with fail
            refine (C6.out _).mono ?_
            rintro e w' ⟨rfl, rfl⟩
            go_wp2_with (go_at_call 14; refine (known_any _).mono ?_; rintro e w' ⟨rfl, hb'⟩)
            go_ret
            exact ⟨ret_bool (by simp; try omega), (hb.setCell (Nat.le_refl _) _).trans (hb'.mono (by simpa [World.setCell] using hsize))⟩
          · have hB3 : decide (97 ≤ f ∧ f ≤ 122) = false := by simpa using hz
            rw [hB3] at C4
            have C5 := Lib.hid C3
            have C6 := Lib.hid C4
            clear hB hB2 hB3 C3 C4 C1 C2 hj0
            have hback := HBK.out
            have hback2 := HB2.out
            by_cases hz1 : f < 97
            · clear hz
              go_wp2_with fail
              refine (C5.out _).mono ?_
              rintro e w' ⟨rfl, rfl⟩
              go_wp2_with fail
              refine (C6.out _).mono ?_
              rintro e w' ⟨rfl, rfl⟩
              go_wp2_with (go_at_call 14; refine (known_any _).mono ?_; rintro e w' ⟨rfl, hb'⟩)
              go_ret
              exact ⟨ret_bool (by simp; try omega), (hb.setCell (Nat.le_refl _) _).trans (hb'.mono (by simpa [World.setCell] using hsize))⟩
            · have hz2 : 122 < f := by omega
              have hd2 : decide (f ≤ 122) = false := by simp; omega
              clear hz
              go_wp2_with fail
              refine (C5.out _).mono ?_
              rintro e w' ⟨rfl, rfl⟩
              go_wp2_with fail
              refine (C6.out _).mono ?_
              rintro e w' ⟨rfl, rfl⟩
              go_wp2_with (go_at_call 14; refine (known_any _).mono ?_; rintro e w' ⟨rfl, hb'⟩)
              go_ret
              exact ⟨ret_bool (by simp; try omega), (hb.setCell (Nat.le_refl _) _).trans (hb'.mono (by simpa [World.setCell] using hsize))⟩
        · have hB : decide (1 ≤ m + 1 ∧ m + 1 ≤ 24) = false := by simp; omega
          have hB2 : decide (m ≤ 23) = false := by simp; omega
          have hd : decide ((m : Int) + 1 ≤ 24) = false := by simp; omega
          have C3 := C1.out
          have C4 := C2.out
          rw [hB] at C3
          rw [hB2, Bool.false_and] at C4
          have C5 := Lib.hid C3
          have C6 := Lib.hid C4
          clear hB hB2 C3 C4 C1 C2 hj0
          have hback := HBK.out
          have hback2 := HB2.out
          go_wp2_with fail
          refine (C5.out _).mono ?_
          rintro e w' ⟨rfl, rfl⟩
          go_wp2_with fail
          refine (C6.out _).mono ?_
          rintro e w' ⟨rfl, rfl⟩
          go_wp2_with (go_at_call 14; refine (known_any _).mono ?_; rintro e w' ⟨rfl, hb'⟩)
          go_ret
          exact ⟨ret_bool (by simp; try omega), (hb.setCell (Nat.le_refl _) _).trans (hb'.mono (by simpa [World.setCell] using hsize))⟩

end Go.Proofs.Ytkjinepemcehnaa
