/-
  Contracts and plain laws that this claim leans on, part 7.
-/
import Derived.Test.YtfkojnofbpdjdaaGreatDoorPackF6
import Derived.Test.YtfkojnofbpdjdaaGreatDoorPackF1
import Derived.Test.YtfkojnofbpdjdaaGreatDoorPackF5
import Derived.Test.YtfkojnofbpdjdaaGreatDoorPackF3
import Derived.Test.YtfkojnofbpdjdaaGreatDoorPackF2
import Derived.Test.YtfkojnofbpdjdaaGreatDoorRows
import Derived.ProofKit
import Derived.LaidMore
import Derived.Lay
import Derived.SizedLaws
import Derived.Shelf.Vars
import Derived.Stop.Joined
set_option linter.unusedVariables false
set_option linter.unusedSimpArgs false
namespace Go.Proofs.YtfkojnofbpdjdaaGreatDoor
set_option maxRecDepth 100000
open Go.RowKit

def dotP : Nat → Bool := addP noP 46
def stopP : Nat → Bool := addP dotP 33
def spcP : Nat → Bool := addP noP 32
def sentR : Ru := ⟨true, [⟨stopP, 1, false⟩], [⟨spcP, 1, false⟩]⟩
theorem dot_byte : ∀ i, i < 32 → i ≠ 5 → byteOf dotP i = byteOf noP i := by decide
theorem stop_byte : ∀ i, i < 32 → i ≠ 4 → byteOf stopP i = byteOf dotP i := by decide
theorem spc_byte : ∀ i, i < 32 → i ≠ 4 → byteOf spcP i = byteOf noP i := by decide
theorem zero2S (w : World) : AtIn ((w.alloc (.cells (atE 0 false) 107)).alloc (.cells (atE 0 false) 107)) (w.heap.size + 1) ⟨noP, 0, false⟩ := by
  have h := at_zero (w.alloc (.cells (atE 0 false) 107))
  rw [show (w.alloc (.cells (atE 0 false) 107)).heap.size = w.heap.size + 1 from Array.size_push ..] at h
  exact h
theorem zero3S (w : World) : AtIn ((w.alloc (.cells (atE 0 false) 107)).alloc (.cells (atE 0 false) 107)) w.heap.size ⟨noP, 0, false⟩ :=
  (at_zero w).keep (Below.heap_alloc _ _ _ (by show w.heap.size < (w.heap.push _).size; rw [Array.size_push]; omega))

set_option maxRecDepth 100000 in
set_option maxHeartbeats 8000000 in
theorem sent_any (w : World) : Calls Tryz.prog 19 #[] w (RetRules w [sentR]) := by
  obtain ⟨R, HRR⟩ : ∃ R, Hid (R = RetRules w [sentR]) := ⟨_, rfl⟩
  rw [← HRR.out]
  have HS2 := Lib.hid (zero2S w)
  have HS1 := Lib.hid (zero3S w)
  have HB2 : Hid (Below w.heap.size w ((w.alloc (.cells #[.int .u8 0, .int .u8 0, .int .u8 0, .int .u8 0, .int .u8 0, .int .u8 0, .int .u8 0, .int .u8 0, .int .u8 0, .int .u8 0, .int .u8 0, .int .u8 0, .int .u8 0, .int .u8 0, .int .u8 0, .int .u8 0, .int .u8 0, .int .u8 0, .int .u8 0, .int .u8 0, .int .u8 0, .int .u8 0, .int .u8 0, .int .u8 0, .int .u8 0, .int .u8 0, .int .u8 0, .int .u8 0, .int .u8 0, .int .u8 0, .int .u8 0, .int .u8 0, .int .i64 0, .bool false] 107)).alloc (.cells #[.int .u8 0, .int .u8 0, .int .u8 0, .int .u8 0, .int .u8 0, .int .u8 0, .int .u8 0, .int .u8 0, .int .u8 0, .int .u8 0, .int .u8 0, .int .u8 0, .int .u8 0, .int .u8 0, .int .u8 0, .int .u8 0, .int .u8 0, .int .u8 0, .int .u8 0, .int .u8 0, .int .u8 0, .int .u8 0, .int .u8 0, .int .u8 0, .int .u8 0, .int .u8 0, .int .u8 0, .int .u8 0, .int .u8 0, .int .u8 0, .int .u8 0, .int .u8 0, .int .i64 0, .bool false] 107))) := Lib.hid (((Below.refl _ w).alloc (Nat.le_refl _) _).alloc (by rw [show (w.alloc (.cells #[.int .u8 0, .int .u8 0, .int .u8 0, .int .u8 0, .int .u8 0, .int .u8 0, .int .u8 0, .int .u8 0, .int .u8 0, .int .u8 0, .int .u8 0, .int .u8 0, .int .u8 0, .int .u8 0, .int .u8 0, .int .u8 0, .int .u8 0, .int .u8 0, .int .u8 0, .int .u8 0, .int .u8 0, .int .u8 0, .int .u8 0, .int .u8 0, .int .u8 0, .int .u8 0, .int .u8 0, .int .u8 0, .int .u8 0, .int .u8 0, .int .u8 0, .int .u8 0, .int .i64 0, .bool false] 107)).heap.size = w.heap.size + 1 from Array.size_push ..]; omega) _)
  change Hid (AtIn ((w.alloc (.cells #[.int .u8 0, .int .u8 0, .int .u8 0, .int .u8 0, .int .u8 0, .int .u8 0, .int .u8 0, .int .u8 0, .int .u8 0, .int .u8 0, .int .u8 0, .int .u8 0, .int .u8 0, .int .u8 0, .int .u8 0, .int .u8 0, .int .u8 0, .int .u8 0, .int .u8 0, .int .u8 0, .int .u8 0, .int .u8 0, .int .u8 0, .int .u8 0, .int .u8 0, .int .u8 0, .int .u8 0, .int .u8 0, .int .u8 0, .int .u8 0, .int .u8 0, .int .u8 0, .int .i64 0, .bool false] 107)).alloc (.cells #[.int .u8 0, .int .u8 0, .int .u8 0, .int .u8 0, .int .u8 0, .int .u8 0, .int .u8 0, .int .u8 0, .int .u8 0, .int .u8 0, .int .u8 0, .int .u8 0, .int .u8 0, .int .u8 0, .int .u8 0, .int .u8 0, .int .u8 0, .int .u8 0, .int .u8 0, .int .u8 0, .int .u8 0, .int .u8 0, .int .u8 0, .int .u8 0, .int .u8 0, .int .u8 0, .int .u8 0, .int .u8 0, .int .u8 0, .int .u8 0, .int .u8 0, .int .u8 0, .int .i64 0, .bool false] 107)) (w.heap.size + 1) ⟨noP, 0, false⟩) at HS2
  change Hid (AtIn ((w.alloc (.cells #[.int .u8 0, .int .u8 0, .int .u8 0, .int .u8 0, .int .u8 0, .int .u8 0, .int .u8 0, .int .u8 0, .int .u8 0, .int .u8 0, .int .u8 0, .int .u8 0, .int .u8 0, .int .u8 0, .int .u8 0, .int .u8 0, .int .u8 0, .int .u8 0, .int .u8 0, .int .u8 0, .int .u8 0, .int .u8 0, .int .u8 0, .int .u8 0, .int .u8 0, .int .u8 0, .int .u8 0, .int .u8 0, .int .u8 0, .int .u8 0, .int .u8 0, .int .u8 0, .int .i64 0, .bool false] 107)).alloc (.cells #[.int .u8 0, .int .u8 0, .int .u8 0, .int .u8 0, .int .u8 0, .int .u8 0, .int .u8 0, .int .u8 0, .int .u8 0, .int .u8 0, .int .u8 0, .int .u8 0, .int .u8 0, .int .u8 0, .int .u8 0, .int .u8 0, .int .u8 0, .int .u8 0, .int .u8 0, .int .u8 0, .int .u8 0, .int .u8 0, .int .u8 0, .int .u8 0, .int .u8 0, .int .u8 0, .int .u8 0, .int .u8 0, .int .u8 0, .int .u8 0, .int .u8 0, .int .u8 0, .int .i64 0, .bool false] 107)) w.heap.size ⟨noP, 0, false⟩) at HS1
  go_enter Tryz.func19, Tryz.ntmps19
  go_upto_region 2 with fail
  generalize ((w.alloc (.cells #[.int .u8 0, .int .u8 0, .int .u8 0, .int .u8 0, .int .u8 0, .int .u8 0, .int .u8 0, .int .u8 0, .int .u8 0, .int .u8 0, .int .u8 0, .int .u8 0, .int .u8 0, .int .u8 0, .int .u8 0, .int .u8 0, .int .u8 0, .int .u8 0, .int .u8 0, .int .u8 0, .int .u8 0, .int .u8 0, .int .u8 0, .int .u8 0, .int .u8 0, .int .u8 0, .int .u8 0, .int .u8 0, .int .u8 0, .int .u8 0, .int .u8 0, .int .u8 0, .int .i64 0, .bool false] 107)).alloc (.cells #[.int .u8 0, .int .u8 0, .int .u8 0, .int .u8 0, .int .u8 0, .int .u8 0, .int .u8 0, .int .u8 0, .int .u8 0, .int .u8 0, .int .u8 0, .int .u8 0, .int .u8 0, .int .u8 0, .int .u8 0, .int .u8 0, .int .u8 0, .int .u8 0, .int .u8 0, .int .u8 0, .int .u8 0, .int .u8 0, .int .u8 0, .int .u8 0, .int .u8 0, .int .u8 0, .int .u8 0, .int .u8 0, .int .u8 0, .int .u8 0, .int .u8 0, .int .u8 0, .int .i64 0, .bool false] 107)) = w2 at HS2 HS1 HB2 ⊢
  generalize hg1 : w.heap.size = g1 at HS2 HS1 HB2 ⊢
  have HG1 := Lib.hid hg1
  clear hg1
  obtain ⟨g2, hg2⟩ : ∃ g2, Hid (g1 + 1 = g2) := ⟨_, rfl⟩
  rw [hg2.out] at HS2 ⊢
  have hgg : g1 < g2 := by have := hg2.out; omega
  have q1 := HS1.out.mn
  have q2 := HS1.out.free 32
  have q3 := HS2.out.mn
  have q4 := HS2.out.free 32
  go_upto_region 3 with fail
  have HS3 : Hid (AtIn ((w2.setCell ⟨g1, 32, none⟩ (.int .i64 1)).setCell ⟨g2, 32, none⟩ (.int .i64 1)) g1 ⟨noP, 1, false⟩) := Lib.hid ((HS1.out.setMn 1).keep (heap_setCell_other _ _ _ _ (by show g1 ≠ g2; omega)))
  have HT3 : Hid (AtIn ((w2.setCell ⟨g1, 32, none⟩ (.int .i64 1)).setCell ⟨g2, 32, none⟩ (.int .i64 1)) g2 ⟨noP, 1, false⟩) := Lib.hid (AtIn.setMn (HS2.out.keep (heap_setCell_other _ _ _ _ (by show g2 ≠ g1; omega))) 1)
  have HB3 := Lib.hid ((HB2.out.setCell (p := ⟨g1, 32, none⟩) (Nat.le_refl _) (.int .i64 1)).setCell (p := ⟨g2, 32, none⟩) (by show _ ≤ g2; omega) (.int .i64 1))
  generalize (w2.setCell ⟨g1, 32, none⟩ (.int .i64 1)).setCell ⟨g2, 32, none⟩ (.int .i64 1) = w3 at HS3 HT3 HB3 ⊢
  clear q1 q2 q3 q4 HS1 HS2 HB2
  have q1 : w3.cell? ⟨g1, 5, none⟩ = some (.int .u8 0) := HS3.out.range 5 _ (by rfl)
  have q2 := HS3.out.free 5
  go_upto_region 4 with fail
  have HS4 : Hid (AtIn (w3.setCell ⟨g1, 5, none⟩ (.int .u8 (bits BinOp.or .u8 0 64))) g1 ⟨dotP, 1, false⟩) := Lib.hid (HS3.out.setSet dotP 5 (by decide) dot_byte)
  have HT4 : Hid (AtIn (w3.setCell ⟨g1, 5, none⟩ (.int .u8 (bits BinOp.or .u8 0 64))) g2 ⟨noP, 1, false⟩) := Lib.hid (HT3.out.keep (heap_setCell_other _ _ _ _ (by show g2 ≠ g1; omega)))
  have HB4 := Lib.hid (HB3.out.setCell (p := ⟨g1, 5, none⟩) (Nat.le_refl _) (.int .u8 (bits BinOp.or .u8 0 64)))
  generalize w3.setCell ⟨g1, 5, none⟩ (.int .u8 (bits BinOp.or .u8 0 64)) = w4 at HS4 HT4 HB4 ⊢
  clear q1 q2 HS3 HT3 HB3
  have q1 : w4.cell? ⟨g1, 4, none⟩ = some (.int .u8 0) := HS4.out.range 4 _ (by rfl)
  have q2 := HS4.out.free 4
  go_upto_region 5 with fail
  have HS5 : Hid (AtIn (w4.setCell ⟨g1, 4, none⟩ (.int .u8 (bits BinOp.or .u8 0 2))) g1 ⟨stopP, 1, false⟩) := Lib.hid (HS4.out.setSet stopP 4 (by decide) stop_byte)
  have HT5 : Hid (AtIn (w4.setCell ⟨g1, 4, none⟩ (.int .u8 (bits BinOp.or .u8 0 2))) g2 ⟨noP, 1, false⟩) := Lib.hid (HT4.out.keep (heap_setCell_other _ _ _ _ (by show g2 ≠ g1; omega)))
  have HB5 := Lib.hid (HB4.out.setCell (p := ⟨g1, 4, none⟩) (Nat.le_refl _) (.int .u8 (bits BinOp.or .u8 0 2)))
  generalize w4.setCell ⟨g1, 4, none⟩ (.int .u8 (bits BinOp.or .u8 0 2)) = w5 at HS5 HT5 HB5 ⊢
  clear q1 q2 HS4 HT4 HB4
  have q1 : w5.cell? ⟨g2, 4, none⟩ = some (.int .u8 0) := HT5.out.range 4 _ (by rfl)
  have q2 := HT5.out.free 4
  go_upto_region 6 with fail
  have HT6 : Hid (AtIn (w5.setCell ⟨g2, 4, none⟩ (.int .u8 (bits BinOp.or .u8 0 1))) g2 ⟨spcP, 1, false⟩) := Lib.hid (HT5.out.setSet spcP 4 (by decide) spc_byte)
  have HS6 : Hid (AtIn (w5.setCell ⟨g2, 4, none⟩ (.int .u8 (bits BinOp.or .u8 0 1))) g1 ⟨stopP, 1, false⟩) := Lib.hid (HS5.out.keep (heap_setCell_other _ _ _ _ (by show g1 ≠ g2; omega)))
  have HB6 := Lib.hid (HB5.out.setCell (p := ⟨g2, 4, none⟩) (by show _ ≤ g2; omega) (.int .u8 (bits BinOp.or .u8 0 1)))
  generalize w5.setCell ⟨g2, 4, none⟩ (.int .u8 (bits BinOp.or .u8 0 1)) = w6 at HS6 HT6 HB6 ⊢
  clear q1 q2 HS5 HT5 HB5
  obtain ⟨sa, hsa⟩ : ∃ sa : At, Hid (sa = ⟨stopP, 1, false⟩) := ⟨⟨stopP, 1, false⟩, rfl⟩
  obtain ⟨ta, hta⟩ : ∃ ta : At, Hid (ta = ⟨spcP, 1, false⟩) := ⟨⟨spcP, 1, false⟩, rfl⟩
  rw [← hsa.out] at HS6
  rw [← hta.out] at HT6
  have HT7 := Lib.hid (HT6.out.keep (Below.heap_alloc w6 (.cells (atC sa).toArray 107) g2 HT6.out.lt))
  have hb7 := (HB6.out.alloc (by have := HB6.out.size; have := HG1.out; omega) (.cells (atC sa).toArray 107))
  have hb8 := hb7.alloc (by have := hb7.size; have := HG1.out; omega) (.cells (atC ta).toArray 107)
  have e7 : (w6.alloc (.cells (atC sa).toArray 107)).heap.size = w6.heap.size + 1 := by simp
  have hr1 := ((rdE_oneR atC 34 atC_len w6 w6.heap.size rfl sa 107).alloc (.cells (atC ta).toArray 107))
  have hr2 := rdE_oneR atC 34 atC_len (w6.alloc (.cells (atC sa).toArray 107)) (w6.heap.size + 1) e7 ta 107
  have HR1 := Lib.hid hr1
  have HR2 := Lib.hid hr2
  have HB8 := Lib.hid hb8
  clear hr1 hr2 hb8 hb7 e7
  go_wp2_with (first
    | (refine wpList_load_row rfl 107 (.tmp 1) rfl g1 rfl 107 (atC sa).toArray (0, 0) _ HS6.out Tryz.underlying107 rfl (by rw [atom_size, atC_size]) ?_; refine wpList_buildOne rfl (.tmp 23) (by rfl) sa (by rfl) ?_)
    | (refine wpList_load_row rfl 107 (.tmp 2) rfl g2 rfl 107 (atC ta).toArray (0, 0) _ HT7.out Tryz.underlying107 rfl (by rw [atom_size, atC_size]) ?_; refine wpList_buildOne rfl (.tmp 25) (by rfl) ta (by rfl) ?_))
  rw [HRR.out]
  have e8 : ((w6.alloc (.cells (atC sa).toArray 107)).alloc (.cells (atC ta).toArray 107)).heap.size = w6.heap.size + 1 + 1 := by simp
  have hr3 := rdE_oneR ruC 3 ruC_len ((w6.alloc (.cells (atC sa).toArray 107)).alloc (.cells (atC ta).toArray 107)) (w6.heap.size + 1 + 1) e8 (RuV.mk true ⟨some ⟨w6.heap.size, 0, none⟩, 1, 1⟩ ⟨some ⟨w6.heap.size + 1, 0, none⟩, 1, 1⟩) 110
  refine ⟨.slice (some ⟨w6.heap.size + 1 + 1, 0, none⟩) 1 1, rfl, ⟨_, hr3, rfl, fun i x r hx hr => ?_⟩, ?_⟩
  · have hi : i = 0 := by have := (List.getElem?_eq_some_iff.1 hx).1; simpa using this
    subst hi
    obtain rfl := Option.some.inj hx
    obtain rfl := Option.some.inj hr
    refine ⟨rfl, ?_, ?_⟩
    · have h := HR1.out.alloc (.cells (ruC (RuV.mk true ⟨some ⟨w6.heap.size, 0, none⟩, 1, 1⟩ ⟨some ⟨w6.heap.size + 1, 0, none⟩, 1, 1⟩)).toArray 110)
      have e : sentR.bf = [sa] := by rw [hsa.out]; rfl
      show RdE atC 34 _ _ sentR.bf
      rw [e]
      exact h
    · have h := HR2.out.alloc (.cells (ruC (RuV.mk true ⟨some ⟨w6.heap.size, 0, none⟩, 1, 1⟩ ⟨some ⟨w6.heap.size + 1, 0, none⟩, 1, 1⟩)).toArray 110)
      have e : sentR.af = [ta] := by rw [hta.out]; rfl
      show RdE atC 34 _ _ sentR.af
      rw [e]
      exact h
  · rw [HG1.out]
    exact HB8.out.alloc (by have := HB8.out.size; have := HG1.out; omega) _

end Go.Proofs.YtfkojnofbpdjdaaGreatDoor

namespace Go.Proofs.YtfkojnofbpdjdaaGreatDoor
set_option maxRecDepth 100000

def wB : List UInt8 := [98]
/-- The elements of 'Save. <b>Red</b> car!'. -/
def knTs : Els := [([83], some (chI 83)), ([97], some (chI 97)), ([118], some (chI 118)), ([101], some (chI 101)), ([46], some (chI 46)), ([32], some (chI 32)), ([60, 98, 62], some ⟨2, ofL wB, 1⟩), ([82], some (chI 82)), ([101], some (chI 101)), ([100], some (chI 100)), ([60, 47, 98, 62], some ⟨3, ofL wB, 1⟩), ([32], some (chI 32)), ([99], some (chI 99)), ([97], some (chI 97)), ([114], some (chI 114)), ([33], some (chI 33))]
theorem knTs_ok : RawOk 1 knTs := by
  refine ⟨fun e he => ?_, cont_some _ fun e he => ?_, ?_, by decide⟩
  · simp only [knTs, List.mem_cons, List.not_mem_nil, or_false] at he
    rcases he with rfl | rfl | rfl | rfl | rfl | rfl | rfl | rfl | rfl | rfl | rfl | rfl | rfl | rfl | rfl | rfl
    all_goals first
      | exact ElOk.ch1 _ (by decide)
      | exact ElOk.opn wB 1 (by decide) (by decide)
      | exact ElOk.cls wB 1 (by decide) (by decide)
  · simp only [knTs, List.mem_cons, List.not_mem_nil, or_false] at he
    rcases he with rfl | rfl | rfl | rfl | rfl | rfl | rfl | rfl | rfl | rfl | rfl | rfl | rfl | rfl | rfl | rfl
    all_goals exact fun h => by cases h
  · show NumOk [chI 83, chI 97, chI 118, chI 101, chI 46, chI 32, ⟨2, ofL wB, 1⟩, chI 82, chI 101, chI 100, ⟨3, ofL wB, 1⟩, chI 32, chI 99, chI 97, chI 114, chI 33] 0 []
    simp [NumOk, chI]
    exact ⟨_, [], ⟨rfl, rfl⟩, rfl, rfl, rfl⟩
def knF : List Tk := [⟨1, ⟨#[83, 97, 118, 101, 46, 32]⟩, 0⟩, ⟨2, ofL wB, 1⟩, ⟨1, ⟨#[82, 101, 100]⟩, 0⟩, ⟨3, ofL wB, 1⟩, ⟨1, ⟨#[32, 99, 97, 114, 33]⟩, 0⟩]
theorem kn_items : itmE knTs = expF knF := rfl
theorem kn_normal : Normal knF := by
  have t : ∀ (b : ByteArray) (l : List Tk), b.size ≠ 0 → (∀ y, l.head? = some y → y.k ≠ 1) → Normal l → Normal (⟨1, b, 0⟩ :: l) := fun b l h1 h2 h3 => ⟨fun _ => ⟨h1, rfl, h2⟩, h3⟩
  have o : ∀ (x : Tk) (l : List Tk), x.k ≠ 1 → Normal l → Normal (x :: l) := fun x l h1 h3 => ⟨fun h => absurd h h1, h3⟩
  unfold knF
  refine t _ _ (by decide) (fun y hy => ?_) (o _ _ (by show (2 : Int) ≠ 1; decide) (t _ _ (by decide) (fun y hy => ?_) (o _ _ (by show (3 : Int) ≠ 1; decide) (t _ _ (by decide) (fun y hy => ?_) trivial))))
  · injection hy with hy
    rw [← hy]
    show (2 : Int) ≠ 1
    decide
  · injection hy with hy
    rw [← hy]
    show (3 : Int) ≠ 1
    decide
  · cases hy
theorem kn_norm : normL (itmE knTs) = knF := by rw [kn_items, norm_of_exp _ kn_normal]
theorem kn_ranges : rangesF [sentR] knF = [(0, 5), (6, 16)] := by decide +kernel

/-- The target: 'Sichern.'. -/
def knG : List Tk := [⟨1, ⟨#[83, 105, 99, 104, 101, 114, 110, 46]⟩, 0⟩]
def knTs2 : Els := splE knTs 0 [(0, 5)] [tsF 1 knG]
theorem knG_plain : ∀ x ∈ knG, PlainOk x := fun x hx => Or.inl (by rw [List.mem_singleton.1 hx])
theorem knG_normal : Normal knG := ⟨fun _ => ⟨by decide, rfl, fun y hy => by cases hy⟩, trivial⟩
theorem knG_val : ValF knG := plain_val knG knG_normal knG_plain (by decide)
theorem knTs2_eq : knTs2 = [([83], some (chI 83)), ([105], some (chI 105)), ([99], some (chI 99)), ([104], some (chI 104)), ([101], some (chI 101)), ([114], some (chI 114)), ([110], some (chI 110)), ([46], some (chI 46)), ([32], some (chI 32)), ([60, 98, 62], some ⟨2, ofL wB, 1⟩), ([82], some (chI 82)), ([101], some (chI 101)), ([100], some (chI 100)), ([60, 47, 98, 62], some ⟨3, ofL wB, 1⟩), ([32], some (chI 32)), ([99], some (chI 99)), ([97], some (chI 97)), ([114], some (chI 114)), ([33], some (chI 33))] := rfl
theorem knTs2_ok : RawOk 1 knTs2 := by
  rw [knTs2_eq]
  refine ⟨fun e he => ?_, cont_some _ fun e he => ?_, ?_, by decide⟩
  · simp only [List.mem_cons, List.not_mem_nil, or_false] at he
    rcases he with rfl | rfl | rfl | rfl | rfl | rfl | rfl | rfl | rfl | rfl | rfl | rfl | rfl | rfl | rfl | rfl | rfl | rfl | rfl
    all_goals first
      | exact ElOk.ch1 _ (by decide)
      | exact ElOk.opn wB 1 (by decide) (by decide)
      | exact ElOk.cls wB 1 (by decide) (by decide)
  · simp only [List.mem_cons, List.not_mem_nil, or_false] at he
    rcases he with rfl | rfl | rfl | rfl | rfl | rfl | rfl | rfl | rfl | rfl | rfl | rfl | rfl | rfl | rfl | rfl | rfl | rfl | rfl
    all_goals exact fun h => by cases h
  · show NumOk [chI 83, chI 105, chI 99, chI 104, chI 101, chI 114, chI 110, chI 46, chI 32, ⟨2, ofL wB, 1⟩, chI 82, chI 101, chI 100, ⟨3, ofL wB, 1⟩, chI 32, chI 99, chI 97, chI 114, chI 33] 0 []
    simp [NumOk, chI]
    exact ⟨_, [], ⟨rfl, rfl⟩, rfl, rfl, rfl⟩
theorem knTs_raw : rawE knTs = [83, 97, 118, 101, 46, 32, 60, 98, 62, 82, 101, 100, 60, 47, 98, 62, 32, 99, 97, 114, 33] := by decide
theorem knTs2_raw : rawE knTs2 = [83, 105, 99, 104, 101, 114, 110, 46, 32, 60, 98, 62, 82, 101, 100, 60, 47, 98, 62, 32, 99, 97, 114, 33] := by rw [knTs2_eq]; decide

end Go.Proofs.YtfkojnofbpdjdaaGreatDoor

namespace Go.Proofs.YtfkojnofbpdjdaaGreatDoor
set_option maxRecDepth 100000
open Go.RowKit

theorem norm_forall (P : Tk → Prop) (h1 : ∀ x : Tk, x.k = 1 → P x) (f : List Tk) (h : ∀ y ∈ f, P y) : ∀ y ∈ normL f, P y := by
  suffices hh : ∀ (g out : List Tk), (∀ y ∈ g, P y) → (∀ y ∈ out, P y) → ∀ y ∈ g.foldl normStep out, P y from hh f [] h (fun y hy => by simp at hy)
  intro g
  induction g with
  | nil => intro out _ h2; exact h2
  | cons x g ih =>
    intro out hg ho
    refine ih _ (fun y hy => hg y (by simp [hy])) ?_
    intro z hz
    by_cases hk : x.k = 1
    · by_cases h2 : x.t.size = 0
      · rw [step_empty out x hk h2] at hz; exact ho z hz
      · rcases List.eq_nil_or_concat out with rfl | ⟨o, y, rfl⟩
        · rw [step_first x hk h2] at hz
          rw [List.mem_singleton.1 hz]
          exact h1 _ rfl
        · rw [List.concat_eq_append] at ho hz
          by_cases hy : y.k = 1
          · rw [step_join o y x hk h2 hy] at hz
            rcases List.mem_append.1 hz with hz | hz
            · exact ho z (List.mem_append.2 (.inl hz))
            · rw [List.mem_singleton.1 hz]
              exact h1 _ rfl
          · rw [step_new o y x hk h2 hy] at hz
            rcases List.mem_append.1 hz with hz | hz
            · exact ho z hz
            · rw [List.mem_singleton.1 hz]
              exact h1 _ rfl
    · rw [step_other out x hk] at hz
      rcases List.mem_append.1 hz with hz | hz
      · exact ho z hz
      · rw [List.mem_singleton.1 hz]
        exact hg x (by simp)

def knMs : List MK := [.blk wP (Lib.decDigits 1) knTs]
def knPs : List Pt := ptsD (unsMK knMs).1 (unsMK knMs).2
def knPs2 : List Pt := knPs.set 1 ⟨true, ofL (Lib.decDigits 1), ofL (rawE knTs2)⟩
theorem knPs_len : knPs.length = 3 := rfl
theorem knPs_1 : knPs[1]'(by decide) = ⟨true, ofL (Lib.decDigits 1), ofL (rawE knTs)⟩ := rfl
theorem knMs_ok : ∀ x ∈ knMs, MKok x := by
  intro x hx
  rw [List.mem_singleton.1 hx]
  exact ⟨by decide, by decide, knTs_ok⟩
theorem knMs_key : KeyOk 0 knMs := ⟨rfl, by decide, trivial⟩
theorem bytes_pts (us : List Un) (tl : List UInt8) : bytesP (ptsD us tl) = dataD us tl := pts_bytes us tl
theorem kn_data : bytesP knPs = rawM knMs := by
  unfold knPs
  rw [bytes_pts, unsMK_data]
  rfl
theorem knM_raw : rawM knMs = [60, 112, 62, 83, 97, 118, 101, 46, 32, 60, 98, 62, 82, 101, 100, 60, 47, 98, 62, 32, 99, 97, 114, 33, 60, 47, 112, 62] := by decide
theorem kn_data2 : bytesP knPs2 = [60, 112, 62, 83, 105, 99, 104, 101, 114, 110, 46, 32, 60, 98, 62, 82, 101, 100, 60, 47, 98, 62, 32, 99, 97, 114, 33, 60, 47, 112, 62] := by
  show bytesP [⟨false, ofL [], ofL ([] ++ (60 :: wP ++ [62]))⟩, ⟨true, ofL (Lib.decDigits 1), ofL (rawE knTs2)⟩, ⟨false, ofL [], ofL (endT wP)⟩] = _
  rw [knTs2_raw]
  decide

end Go.Proofs.YtfkojnofbpdjdaaGreatDoor

namespace Go.Proofs.YtfkojnofbpdjdaaGreatDoor
set_option maxRecDepth 100000
open Go.RowKit

def knCs : List Int := csE knTs ++ [((rawE knTs).length : Int)]
theorem kn_cat : ∀ p, p < 17 → knCs[p]? = some ((rawE (takeE knTs p)).length : Int) := by decide
theorem kn_pos : (itmE knTs).length = 16 := by decide
theorem kn_asc : ascL 0 [(0, 5)] 16 := ⟨by decide, by decide, by decide, trivial⟩
theorem kn_rdb : Rdb 1 (ofL (rawE knTs)) knTs := ⟨by simp [ofL], knTs_ok.els, knTs_ok.len, by rw [size_ofL, knTs_raw]; decide⟩
theorem kn_rdb2 : Rdb 1 (ofL (rawE knTs2)) knTs2 := ⟨by simp [ofL], knTs2_ok.els, knTs2_ok.len, by rw [size_ofL, knTs2_raw]; decide⟩
theorem el_kind (fmt : Int) (r : List UInt8) (o : Option Tk) (h : ElOk fmt r o) : ∀ x, o = some x → (x.k = 1 ∨ x.k = 5) ∨ (x.k = 2 ∨ x.k = 3 ∨ x.k = 4) := by
  intro x hx
  cases h <;> first
    | (injection hx with hx; subst hx; simp [chI])
    | cases hx
theorem itm_kind (fmt : Int) : ∀ (ts : Els), (∀ e ∈ ts, ElOk fmt e.1 e.2) → ∀ x ∈ itmE ts, (x.k = 1 ∨ x.k = 5) ∨ (x.k = 2 ∨ x.k = 3 ∨ x.k = 4)
  | [], _, x, hx => by simp [itmE] at hx
  | (r, none) :: ts, h, x, hx => itm_kind fmt ts (fun e he => h e (by simp [he])) x hx
  | (r, some y) :: ts, h, x, hx => by
    rw [show itmE ((r, some y) :: ts) = y :: itmE ts from rfl] at hx
    rcases List.mem_cons.1 hx with rfl | hx
    · exact el_kind fmt r _ (h (r, some x) (by simp)) x rfl
    · exact itm_kind fmt ts (fun e he => h e (by simp [he])) x hx
/-- Elements that can be read: their tags are numbered from 1. -/
theorem raw_num (fmt : Int) (ts : Els) (h : RawOk fmt ts) : ∃ n, numsG (normL (itmE ts)) [] = cnt1 n ∧ n ≤ 500 ∧ ∀ x ∈ normL (itmE ts), KindT n x := by
  obtain ⟨h1, h2, _⟩ := numOk_nums (itmE ts) 0 [] h.num (fun y hy => by simp at hy)
  refine ⟨(opnN (itmE ts) 0 []).1, by rw [numsG_norm]; exact h1, ?_, norm_forall _ (fun x hx => .inl (.inl hx)) _ fun y hy => ?_⟩
  · have := numsG_len (itmE ts) []
    have h3 := h.len
    rw [show numsG (itmE ts) [] = cnt1 (opnN (itmE ts) 0 []).1 from h1, cnt1_len] at this
    simp at this
    omega
  · rcases itm_kind fmt ts h.els y hy with hk | hk
    · exact .inl hk
    · exact .inr ⟨hk, h2 y hy hk⟩
theorem kn_ones (ts : Els) (h : RawOk 1 ts) : expF (itmE ts) = itmE ts := expF_id _ fun y hy => itm_one 1 ts h.els y hy
theorem kn_spl (m : Int) : SplOk m 1 (ofL (bytesP knPs)) knPs := fun w hm => by
  rw [kn_data]
  exact mkSplit_any _ knMs m w hm (by simp [ofL]) knMs_ok knMs_key (by rw [size_ofL, knM_raw]; decide)
theorem kn_rpl (m : Int) : ∃ n, RplOk m 1 knPs 1 knTs knCs [(0, 5)] [knG] n := by
  obtain ⟨n, kn_num, hn, kn_knd⟩ := raw_num 1 knTs2 knTs2_ok
  exact ⟨n, {
    fm := .inl rfl
    len := by decide
    size := by rw [kn_data, knM_raw]; decide
    spl := kn_spl m
    kl := by decide
    un := rfl
    raw := rfl
    rsz := by rw [knTs_raw]; decide
    dec := fun w hm => mkDecode_any _ knTs m w hm kn_rdb knTs_ok.num
    one := kn_ones knTs knTs_ok
    pos := by rw [kn_pos]; decide
    cut := fun w hm => mkCuts_any _ knTs m w hm kn_rdb knTs_ok.num
    csl := by decide
    cat := fun p hp => kn_cat p (by rw [kn_pos] at hp; omega)
    rtl := rfl
    rll := by decide
    asc := by rw [kn_pos]; exact kn_asc
    tgn := fun t ht => by rw [List.mem_singleton.1 ht]; exact knG_normal
    enc := fun t ht => by
      rw [List.mem_singleton.1 ht]
      exact fun A c w hm hr => mkEncode_any knG _ m w hm hr knG_val (plain_noblock knG knG_plain)
    new := fun w hm => mkDecode_any _ knTs2 m w hm kn_rdb2 knTs2_ok.num
    none_ := kn_ones knTs2 knTs2_ok
    npos := knTs2_ok.len
    nrsz := by show (rawE knTs2).length ≤ _; rw [knTs2_raw]; decide
    num := kn_num
    nle := by omega
    knd := kn_knd
    nsz := by
      show (bytesP knPs2).length ≤ _
      rw [kn_data2]; decide }⟩

end Go.Proofs.YtfkojnofbpdjdaaGreatDoor

namespace Go.Proofs.YtfkojnofbpdjdaaGreatDoor
set_option maxRecDepth 100000
open Go.RowKit

theorem kn_bytes : (⟨#[60, 112, 62, 83, 97, 118, 101, 46, 32, 60, 98, 62, 82, 101, 100, 60, 47, 98, 62, 32, 99, 97, 114, 33, 60, 47, 112, 62]⟩ : ByteArray) = ofL (bytesP knPs) := by rw [kn_data, knM_raw]; rfl
theorem kn_bytes2 : ofL (bytesP knPs2) = (⟨#[60, 112, 62, 83, 105, 99, 104, 101, 114, 110, 46, 32, 60, 98, 62, 82, 101, 100, 60, 47, 98, 62, 32, 99, 97, 114, 33, 60, 47, 112, 62]⟩ : ByteArray) := by rw [kn_data2]; rfl
theorem ex_buildK {a : Act} {w : World} {o : Oper} (t : ByteArray) (ho : o.op = .build 31 #[(0, .const (.int .i64 1)), (1, .const (.string t))]) : (execOp a.eval o).run Tryz.prog w = .ok (.value (.agg #[.int .i64 1, .string t, .int .i64 0])) w := by
  have h1 : a.eval (.const (.int .i64 1)) = .int .i64 1 := rfl
  have h2 : a.eval (.const (.string t)) = .string t := rfl
  generalize a.eval = ρ at h1 h2 ⊢
  unfold execOp
  simp only [ho]
  go_simp
theorem ex_box31 {a : Act} {w : World} {o : Oper} (x : Operand) (t : ByteArray) (ho : o.op = .buildSlice 24 1 #[(0, x)]) (hx : a.eval x = .agg #[.int .i64 1, .string t, .int .i64 0]) : (execOp a.eval o).run Tryz.prog w = .ok (.value (.slice (some ⟨w.heap.size, 0, none⟩) 1 1)) (w.alloc (.cells #[.int .i64 1, .string t, .int .i64 0] 31)) := by
  generalize a.eval = ρ at hx ⊢
  unfold execOp
  simp only [ho]
  go_simp
theorem ex_box24 {a : Act} {w : World} {o : Oper} (x : Operand) (A : Option Addr) (n c : Nat) (ho : o.op = .buildSlice 48 1 #[(0, x)]) (hx : a.eval x = .slice A n c) : (execOp a.eval o).run Tryz.prog w = .ok (.value (.slice (some ⟨w.heap.size, 0, none⟩) 1 1)) (w.alloc (.cells #[.slice A n c] 24)) := by
  generalize a.eval = ρ at hx ⊢
  unfold execOp
  simp only [ho]
  go_simp
theorem ex_callK4 {P : Program} {w : World} {a : Act} {o : Oper} {f : FuncId} {x y z u : Operand} (ts : Array TypeId) {vx vy vz vu : Value} (ho : o.op = .call { callee := .value (.func f), args := #[x, y, z, u], argTypes := ts }) (hx : a.eval x = vx) (hy : a.eval y = vy) (hz : a.eval z = vz) (hu : a.eval u = vu) (he : (callFunc f #[vx, vy, vz, vu]).run P w = .ok (.enter f #[vx, vy, vz, vu]) w) : (execOp a.eval o).run P w = .ok (.enter f #[vx, vy, vz, vu]) w := by
  have hf : a.eval (.func f) = .func (.func f) #[] #[] := rfl
  generalize a.eval = ρ at hx hy hz hu hf ⊢
  unfold execOp
  simp only [ho]
  go_simp
theorem rdTT_one (w : World) (gi : Nat) (f : List Tk) (hf : f.length = 1) (h : RdT w (.slice (some ⟨gi, 0, none⟩) 1 1) f) : RdTT (w.alloc (.cells #[.slice (some ⟨gi, 0, none⟩) 1 1] 24)) (.slice (some ⟨w.heap.size, 0, none⟩) 1 1) [f] := by
  refine ⟨_, 1, rfl, fun _ => ⟨_, _, rfl, by simp, fun i x hi => ?_⟩⟩
  have hbox : (w.alloc (.cells #[.slice (some ⟨gi, 0, none⟩) 1 1] 24)).heap[w.heap.size]? = some (.cells #[.slice (some ⟨gi, 0, none⟩) 1 1] 24) := Array.getElem?_push_size
  rcases i with _ | i
  · simp at hi; subst hi
    exact ⟨some ⟨gi, 0, none⟩, 1, by rw [cell_of_row _ _ _ _ _ _ hbox, hf]; rfl, by rw [hf]; exact RdE.below h ((Below.refl w.heap.size w).alloc (Nat.le_refl _) _) (Nat.le_refl _)⟩
  · simp at hi
theorem sent_smallT : RuSmall [sentR] := ⟨by decide, fun r hr => by rw [List.mem_singleton.1 hr]; exact ⟨by decide, by decide⟩⟩

set_option maxRecDepth 100000 in
set_option maxHeartbeats 8000000 in
theorem topKnown_any (m : Int) (w : World) (hm : w.cell? ⟨0, 0, none⟩ = some (.int .i64 m)) :
    Calls Tryz.prog 7 #[] w (fun e w' => e = .returned (.bool true) ∧ Below w.heap.size w w') := by
  have hspl : SplOk m 1 (⟨#[60, 112, 62, 83, 97, 118, 101, 46, 32, 60, 98, 62, 82, 101, 100, 60, 47, 98, 62, 32, 99, 97, 114, 33, 60, 47, 112, 62]⟩ : ByteArray) knPs := by rw [kn_bytes]; exact kn_spl m
  obtain ⟨n, hrpl⟩ := kn_rpl m
  have CP := Lib.hid (dparse_any m 1 (.inl rfl) _ knPs hspl w hm)
  have CC := Lib.hid (fun (A : Option Addr) (c : Nat) (W : World) (hW : Below w.heap.size w W) (hr : RdE ptC 3 W (.slice A knPs.length c) knPs) => content_any m 1 (.inl rfl) knPs knF 1 (by decide) rfl (by rw [knPs_1, ← kn_norm]; exact hrpl.dec) A c W (below_cell0 hm hW) hr (by decide))
  have CS := Lib.hid (fun W => sent_any W)
  have CR := Lib.hid (fun (vr v : Value) (W : World) (h1 : RdRu W vr [sentR]) (h2 : RdT W v knF) => ranges_any [sentR] vr knF v W h1 sent_smallT h2 (by decide) (by decide))
  rw [kn_ranges] at CR
  rw [knPs_len] at CC
  have CRP := Lib.hid (fun (A : Option Addr) (c b5 o5 c5 : Nat) (gt : Nat) (W : World) (hW : Below w.heap.size w W) (hp : RdE ptC 3 W (.slice A 3 c) knPs) (hs : RdE rangeC 2 W (.slice (some ⟨b5, o5, none⟩) 2 c5) [(0, 5), (6, 16)]) (ht : RdTT W (.slice (some ⟨gt, 0, none⟩) 1 1) [knG]) =>
    (replace_doc hrpl A (some ⟨b5, o5, none⟩) (some ⟨gt, 0, none⟩) c c5 1 W (below_cell0 hm hW) hp (RdE.take hs 1 (by decide)) ht : Calls Tryz.prog 32 #[.agg #[.int .i64 1, .slice A 3 c], .int .i64 1, .slice (some ⟨b5, o5, none⟩) 1 c5, .slice (some ⟨gt, 0, none⟩) 1 1] W (fun e w' => ∃ A' c', e = .returned (.tuple #[.agg #[.int .i64 1, .slice A' 3 c'], .int .i64 0]) ∧ OwnE 52 ptC 3 w' W.heap.size (.slice A' 3 c') knPs2 ∧ Below W.heap.size W w')))
  have CB := Lib.hid (fun (A : Option Addr) (c : Nat) (W : World) (h : RdE ptC 3 W (.slice A 3 c) knPs2) => bytes_any 1 knPs2 A c W h (by decide) (by rw [kn_data2]; decide))
  rw [kn_bytes2] at CB
  have HM := Lib.hid hm
  clear hm hspl
  go_enter Tryz.func7, Tryz.ntmps7
  go_wp2_with (first
    | (go_at_call 28; refine (CP.out).mono ?_; rintro e W1 ⟨A, c, rfl, ho1, hb1⟩; rw [knPs_len] at ho1 ⊢; have HP1 := Lib.hid (OwnE.rd ptC_three ho1); have HB1 := Lib.hid hb1; have HP2 := Lib.hid (RdE.below HP1.out ((Below.refl W1.heap.size W1).alloc (Nat.le_refl _) (.cells #[.int .i64 1, .slice A 3 c] 41)) (Nat.le_refl _)); have HB2 := Lib.hid (HB1.out.alloc HB1.out.size (.cells #[.int .i64 1, .slice A 3 c] 41)); have HX2 : Hid ((W1.alloc (.cells #[.int .i64 1, .slice A 3 c] 41)).heap[W1.heap.size]? = some (.cells #[.int .i64 1, .slice A 3 c] 41)) := heap_alloc_new W1 _; clear ho1 hb1)
    | (go_at_call 27; refine (CC.out A c _ (by exact HB2.out) (by exact HP2.out)).mono ?_; rintro e W3 ⟨v3, rfl, ho3, hb3⟩; obtain ⟨A3, c3, rfl⟩ := own_shape ho3; have HF3 := Lib.hid (OwnE.rd tkC_three ho3); have HP3 := Lib.hid (RdE.below HP2.out hb3 (Nat.le_refl _)); have HB3 := Lib.hid (HB2.out.trans (hb3.mono HB2.out.size)); have HX3 := Lib.hid (heap_step HX2.out hb3); clear ho3 hb3)
    | (go_at_call 19; refine (CS.out _).mono ?_; rintro e W4 ⟨v4, rfl, hr4, hb4⟩; have HR4 := Lib.hid hr4; have HF4 := Lib.hid (RdE.below HF3.out hb4 (Nat.le_refl _)); have HP4 := Lib.hid (RdE.below HP3.out hb4 (Nat.le_refl _)); have HB4 := Lib.hid (HB3.out.trans (hb4.mono HB3.out.size)); have HX4 := Lib.hid (heap_step HX3.out hb4); clear hr4 hb4)
    | (go_at_call 31; refine (CR.out _ _ _ (by exact HR4.out) (by exact HF4.out)).mono ?_; rintro e W5 ⟨v5, rfl, ho5, hb5⟩; obtain ⟨A5, c5, rfl⟩ := own_shape ho5; have HS5 := Lib.hid (OwnE.rd rangeC_two ho5); have HP5 := Lib.hid (RdE.below HP4.out hb5 (Nat.le_refl _)); have HB5 := Lib.hid (HB4.out.trans (hb5.mono HB4.out.size)); have HX5 := Lib.hid (heap_step HX4.out hb5); obtain ⟨b5, o5, rfl, _, q0, q1⟩ := rdR_at HS5.out 1 (by decide); clear ho5 hb5))
  refine wp_region_at 13 #[false, false, false, false, false, false, false, false, false, false, false, false, false] rfl rfl (by kernel_rfl) ?_
  have hc5 : 1 ≤ c5 := by
    obtain ⟨_, _, hv, hc, _⟩ := HS5.out
    injection hv with _ _ e
    subst e
    exact Nat.le_trans (by decide) hc
  have hc6 : ¬ ((c5 : Int) < 1) := by omega
  have HB0 : Hid (Below w.heap.size w W5.drew) := HB5.out.drew
  have HX0 : Hid (W5.drew.heap[W1.heap.size]? = some (.cells #[.int .i64 1, .slice A 3 c] 41)) := HX5.out
  have HP0 := Lib.hid (RdE.below HP5.out ((Below.refl W5.heap.size W5).drew) (Nat.le_refl _))
  have HS0 := Lib.hid (RdE.below HS5.out ((Below.refl W5.heap.size W5).drew) (Nat.le_refl _))
  generalize W1.heap.size = g at HX0 ⊢
  generalize W5.drew = V0 at HB0 HX0 HP0 HS0 ⊢
  replace CRP := Lib.hid (fun gt W => CRP.out A c b5 o5 c5 gt W)
  clear HB5 HX5 HP5 HS5 HB4 HX4 HP4 HF4 HB3 HX3 HP3 HF3 HB2 HX2 HP2 HB1 HP1 HR4 q0 q1
  refine wpAny_at (i := 1) (v := .slice (some ⟨b5, o5, none⟩) 2 c5) (some 40) rfl rfl (by kernel_rfl) (by kernel_rfl) (by kernel_rfl) (fun _ _ _ h => h) (by kernel_rfl) (fun _ => ex_move _ _ rfl (by kernel_rfl)) ?_
  simp only [Act.put, List.setIfInBounds_toArray, List.set_cons_zero, List.set_cons_succ]
  refine wpAny_at (i := 2) (v := .slice (some ⟨b5, o5, none⟩) 1 c5) (some 41) rfl rfl (by kernel_rfl) (by kernel_rfl) (by kernel_rfl) (fun _ _ _ h => h) (by kernel_rfl) (fun _ => ex_slice 72 _ _ _ (.slice (some ⟨b5, o5, none⟩) 2 c5) _ none (some (.int .i64 1)) rfl (by kernel_rfl) (by kernel_rfl) (by kernel_rfl) (by go_simp)) ?_
  simp only [Act.put, List.setIfInBounds_toArray, List.set_cons_zero, List.set_cons_succ]
  refine wpAny_at (i := 3) (v := .agg #[.int .i64 1, .string (⟨#[83, 105, 99, 104, 101, 114, 110, 46]⟩ : ByteArray), .int .i64 0]) (some 42) rfl rfl (by kernel_rfl) (by kernel_rfl) (by kernel_rfl) (fun _ _ _ h => h) (by kernel_rfl) (fun _ => ex_buildK (⟨#[83, 105, 99, 104, 101, 114, 110, 46]⟩ : ByteArray) rfl) ?_
  simp only [Act.put, List.setIfInBounds_toArray, List.set_cons_zero, List.set_cons_succ]
  refine wpAny_ops3 0 4 10 (by kernel_rfl) rfl rfl rfl (by kernel_rfl) (by kernel_rfl) (by kernel_rfl) ?_ ?_ ?_
  refine wp_of_val (v := .agg #[.int .i64 1, .slice A 3 c]) (ex_load 41 _ (.pointer (some ⟨g, 0, none⟩)) _ rfl (by kernel_rfl) (ldT_doc (bx2 HX0.out).1 (bx2 HX0.out).2.1)) ?_
  simp only [Act.put, List.setIfInBounds_toArray, List.set_cons_zero, List.set_cons_succ]
  refine wpAny_two 4 10 (by kernel_rfl) rfl rfl (by kernel_rfl) (by kernel_rfl) ?_ ?_
  refine wp_of_valw (ex_box31 (.tmp 42) (⟨#[83, 105, 99, 104, 101, 114, 110, 46]⟩ : ByteArray) rfl (by kernel_rfl)) ?_
  have hal := (Below.refl V0.heap.size V0).alloc (Nat.le_refl _) (.cells #[.int .i64 1, .string (⟨#[83, 105, 99, 104, 101, 114, 110, 46]⟩ : ByteArray), .int .i64 0] 31)
  have HB1 := Lib.hid (HB0.out.trans (hal.mono HB0.out.size))
  have HX1 := Lib.hid (heap_step HX0.out hal)
  have HP1 := Lib.hid (RdE.below HP0.out hal (Nat.le_refl _))
  have HS1 := Lib.hid (RdE.below HS0.out hal (Nat.le_refl _))
  have HI1 : Hid (RdT (V0.alloc (.cells #[.int .i64 1, .string (⟨#[83, 105, 99, 104, 101, 114, 110, 46]⟩ : ByteArray), .int .i64 0] 31)) (.slice (some ⟨V0.heap.size, 0, none⟩) 1 1) knG) := rdE_oneR tkC 3 tkC_three V0 _ rfl ⟨1, (⟨#[83, 105, 99, 104, 101, 114, 110, 46]⟩ : ByteArray), 0⟩ _
  clear hal
  generalize V0.heap.size = gi at HI1 ⊢
  generalize V0.alloc (.cells #[.int .i64 1, .string (⟨#[83, 105, 99, 104, 101, 114, 110, 46]⟩ : ByteArray), .int .i64 0] 31) = V1 at HI1 HB1 HX1 HP1 HS1 ⊢
  simp only [Act.put, List.setIfInBounds_toArray, List.set_cons_zero, List.set_cons_succ]
  refine wpAny_two 5 10 (by kernel_rfl) rfl rfl (by kernel_rfl) (by kernel_rfl) ?_ ?_
  refine wp_of_valw (ex_box24 (.tmp 43) (some ⟨gi, 0, none⟩) 1 1 rfl (by kernel_rfl)) ?_
  have hal := (Below.refl V1.heap.size V1).alloc (Nat.le_refl _) (.cells #[.slice (some ⟨gi, 0, none⟩) 1 1] 24)
  have HB2 := Lib.hid (HB1.out.trans (hal.mono HB1.out.size))
  have HX2 := Lib.hid (heap_step HX1.out hal)
  have HP2 := Lib.hid (RdE.below HP1.out hal (Nat.le_refl _))
  have HS2 := Lib.hid (RdE.below HS1.out hal (Nat.le_refl _))
  have HI2 := Lib.hid (RdE.below HI1.out hal (Nat.le_refl _))
  have HT2 : Hid (RdTT (V1.alloc (.cells #[.slice (some ⟨gi, 0, none⟩) 1 1] 24)) (.slice (some ⟨V1.heap.size, 0, none⟩) 1 1) [knG]) := rdTT_one V1 gi knG rfl HI1.out
  clear hal
  generalize V1.heap.size = gt at HT2 ⊢
  generalize V1.alloc (.cells #[.slice (some ⟨gi, 0, none⟩) 1 1] 24) = V2 at HT2 HB2 HX2 HP2 HS2 HI2 ⊢
  simp only [Act.put, List.setIfInBounds_toArray, List.set_cons_zero, List.set_cons_succ]
  refine wpAny_two 6 10 (by kernel_rfl) rfl rfl (by kernel_rfl) (by kernel_rfl) ?_ ?_
  refine wp_of_call (ex_callK4 _ rfl (by kernel_rfl) (by kernel_rfl) (by kernel_rfl) (by kernel_rfl) (enters_of Tryz.func32 (by kernel_rfl) rfl _ _)) (CRP.out gt V2 HB2.out HP2.out HS2.out HT2.out) ?_
  rintro e V3 ⟨A8, c8, rfl, ho, hb⟩
  have HB3 := Lib.hid (HB2.out.trans (hb.mono HB2.out.size))
  have HX3 := Lib.hid (heap_step HX2.out hb)
  have HP3 := Lib.hid (RdE.below HP2.out hb (Nat.le_refl _))
  have HS3 := Lib.hid (RdE.below HS2.out hb (Nat.le_refl _))
  have HI3 := Lib.hid (RdE.below HI2.out hb (Nat.le_refl _))
  have HT3 := Lib.hid (RdTT.below HT2.out hb (Nat.le_refl _))
  have HO3 := Lib.hid (own_base ho HB2.out.size)
  clear ho hb
  refine ⟨.tuple #[.agg #[.int .i64 1, .slice A8 3 c8], .int .i64 0], rfl, ?_⟩
  simp only [Act.put, List.setIfInBounds_toArray, List.set_cons_zero, List.set_cons_succ]
  refine wpAny_at (i := 7) (v := .tuple #[.agg #[.int .i64 1, .slice A8 3 c8], .int .i64 0]) (some 38) rfl rfl (by kernel_rfl) (by kernel_rfl) (by kernel_rfl) (fun _ _ _ h => h) (by kernel_rfl) (fun _ => ex_move _ _ rfl (by kernel_rfl)) ?_
  simp only [Act.put, List.setIfInBounds_toArray, List.set_cons_zero, List.set_cons_succ]
  refine wpAny_at (i := 8) (v := .agg #[.int .i64 1, .slice A8 3 c8]) (some 46) rfl rfl (by kernel_rfl) (by kernel_rfl) (by kernel_rfl) (fun _ _ _ h => h) (by kernel_rfl) (fun _ => ex_extract _ 0 #[.agg #[.int .i64 1, .slice A8 3 c8], .int .i64 0] (.agg #[.int .i64 1, .slice A8 3 c8]) rfl (by kernel_rfl) rfl) ?_
  simp only [Act.put, List.setIfInBounds_toArray, List.set_cons_zero, List.set_cons_succ]
  refine wpAny_at (i := 9) (v := .int .i64 0) (some 47) rfl rfl (by kernel_rfl) (by kernel_rfl) (by kernel_rfl) (fun _ _ _ h => h) (by kernel_rfl) (fun _ => ex_extract _ 1 #[.agg #[.int .i64 1, .slice A8 3 c8], .int .i64 0] (.int .i64 0) rfl (by kernel_rfl) rfl) ?_
  simp only [Act.put, List.setIfInBounds_toArray, List.set_cons_zero, List.set_cons_succ]
  refine wpAny_only 10 (by kernel_rfl) rfl (by kernel_rfl) ?_
  refine wp_of_valw (ex_allocD rfl) ?_
  have hal := (Below.refl V3.heap.size V3).alloc (Nat.le_refl _) (.cells #[.int .i64 0, .slice none 0 0] 41)
  have HB4 := Lib.hid (HB3.out.trans (hal.mono HB3.out.size))
  have HX4 := Lib.hid (heap_step HX3.out hal)
  have HP4 := Lib.hid (RdE.below HP3.out hal (Nat.le_refl _))
  have HS4 := Lib.hid (RdE.below HS3.out hal (Nat.le_refl _))
  have HI4 := Lib.hid (RdE.below HI3.out hal (Nat.le_refl _))
  have HT4 := Lib.hid (RdTT.below HT3.out hal (Nat.le_refl _))
  have HO4 := Lib.hid (own_step HO3.out hal)
  have HG4 : Hid ((V3.alloc (.cells #[.int .i64 0, .slice none 0 0] 41)).heap[V3.heap.size]? = some (.cells #[.int .i64 0, .slice none 0 0] 41)) := heap_alloc_new V3 _
  have hg7 : w.heap.size ≤ V3.heap.size := HB3.out.size
  clear hal
  generalize V3.heap.size = g7 at HG4 hg7 ⊢
  generalize V3.alloc (.cells #[.int .i64 0, .slice none 0 0] 41) = V4 at HG4 HB4 HX4 HP4 HS4 HI4 HT4 HO4 ⊢
  simp only [Act.put, List.setIfInBounds_toArray, List.set_cons_zero, List.set_cons_succ]
  refine wpAny_only 11 (by kernel_rfl) rfl (by kernel_rfl) ?_
  refine wp_storeD (.tmp 7) (.tmp 46) rfl rfl g7 1 A8 3 c8 (by kernel_rfl) (by kernel_rfl) HG4.out ?_
  have HBZ := Lib.hid ((HB4.out.setCell (p := ⟨g7, 0, none⟩) hg7 (.int .i64 1)).setCell (p := ⟨g7, 1, none⟩) hg7 (.slice A8 3 c8))
  have HGZ := Lib.hid (storeD_at (u0 := .int .i64 1) (u1 := .slice A8 3 c8) HG4.out)
  have HOZ := Lib.hid (own_same (w' := (V4.setCell ⟨g7, 0, none⟩ (.int .i64 1)).setCell ⟨g7, 1, none⟩ (.slice A8 3 c8)) HO4.out fun j hj => storeD_out (fun e => own_apart HO4.out HG4.out (by decide) j hj e))
  clear HB4 HX4 HP4 HS4 HI4 HT4 HG4 HO4
  generalize (V4.setCell ⟨g7, 0, none⟩ (.int .i64 1)).setCell ⟨g7, 1, none⟩ (.slice A8 3 c8) = V at HBZ HGZ HOZ ⊢
  simp only [Act.put, List.setIfInBounds_toArray, List.set_cons_zero, List.set_cons_succ]
  refine wpAny_at (i := 12) (v := .int .i64 0) (some 8) rfl rfl (by kernel_rfl) (by kernel_rfl) (by kernel_rfl) (fun _ _ _ h => h) (by kernel_rfl) (fun _ => ex_assign _ _ rfl (by kernel_rfl)) ?_
  simp only [Act.put, List.setIfInBounds_toArray, List.set_cons_zero, List.set_cons_succ]
  refine wpAny_done (by kernel_rfl) ?_ _
  rotate_left 1
  refine wp_of_valw (ex_allocD rfl) ?_
  have hal := (Below.refl V2.heap.size V2).alloc (Nat.le_refl _) (.cells #[.int .i64 0, .slice none 0 0] 41)
  have HB3 := Lib.hid (HB2.out.trans (hal.mono HB2.out.size))
  have HX3 := Lib.hid (heap_step HX2.out hal)
  have HP3 := Lib.hid (RdE.below HP2.out hal (Nat.le_refl _))
  have HS3 := Lib.hid (RdE.below HS2.out hal (Nat.le_refl _))
  have HI3 := Lib.hid (RdE.below HI2.out hal (Nat.le_refl _))
  have HT3 := Lib.hid (RdTT.below HT2.out hal (Nat.le_refl _))
  have HG3 : Hid ((V2.alloc (.cells #[.int .i64 0, .slice none 0 0] 41)).heap[V2.heap.size]? = some (.cells #[.int .i64 0, .slice none 0 0] 41)) := heap_alloc_new V2 _
  have hg7 : w.heap.size ≤ V2.heap.size := HB2.out.size
  clear hal
  generalize V2.heap.size = g7 at HG3 hg7 ⊢
  generalize V2.alloc (.cells #[.int .i64 0, .slice none 0 0] 41) = V3 at HG3 HB3 HX3 HP3 HS3 HI3 HT3 ⊢
  simp only [Act.put, List.setIfInBounds_toArray, List.set_cons_zero, List.set_cons_succ]
  refine wpAny_only 6 (by kernel_rfl) rfl (by kernel_rfl) ?_
  refine wp_of_call (ex_callK4 _ rfl (by kernel_rfl) (by kernel_rfl) (by kernel_rfl) (by kernel_rfl) (enters_of Tryz.func32 (by kernel_rfl) rfl _ _)) (CRP.out gt V3 HB3.out HP3.out HS3.out HT3.out) ?_
  rintro e V4 ⟨A8, c8, rfl, ho, hb⟩
  have HB4 := Lib.hid (HB3.out.trans (hb.mono HB3.out.size))
  have HX4 := Lib.hid (heap_step HX3.out hb)
  have HP4 := Lib.hid (RdE.below HP3.out hb (Nat.le_refl _))
  have HS4 := Lib.hid (RdE.below HS3.out hb (Nat.le_refl _))
  have HI4 := Lib.hid (RdE.below HI3.out hb (Nat.le_refl _))
  have HT4 := Lib.hid (RdTT.below HT3.out hb (Nat.le_refl _))
  have HG4 := Lib.hid (heap_step HG3.out hb)
  have HO4 := Lib.hid (own_base ho HB3.out.size)
  clear ho hb
  refine ⟨.tuple #[.agg #[.int .i64 1, .slice A8 3 c8], .int .i64 0], rfl, ?_⟩
  simp only [Act.put, List.setIfInBounds_toArray, List.set_cons_zero, List.set_cons_succ]
  refine wpAny_at (i := 7) (v := .tuple #[.agg #[.int .i64 1, .slice A8 3 c8], .int .i64 0]) (some 38) rfl rfl (by kernel_rfl) (by kernel_rfl) (by kernel_rfl) (fun _ _ _ h => h) (by kernel_rfl) (fun _ => ex_move _ _ rfl (by kernel_rfl)) ?_
  simp only [Act.put, List.setIfInBounds_toArray, List.set_cons_zero, List.set_cons_succ]
  refine wpAny_at (i := 8) (v := .agg #[.int .i64 1, .slice A8 3 c8]) (some 46) rfl rfl (by kernel_rfl) (by kernel_rfl) (by kernel_rfl) (fun _ _ _ h => h) (by kernel_rfl) (fun _ => ex_extract _ 0 #[.agg #[.int .i64 1, .slice A8 3 c8], .int .i64 0] (.agg #[.int .i64 1, .slice A8 3 c8]) rfl (by kernel_rfl) rfl) ?_
  simp only [Act.put, List.setIfInBounds_toArray, List.set_cons_zero, List.set_cons_succ]
  refine wpAny_at (i := 9) (v := .int .i64 0) (some 47) rfl rfl (by kernel_rfl) (by kernel_rfl) (by kernel_rfl) (fun _ _ _ h => h) (by kernel_rfl) (fun _ => ex_extract _ 1 #[.agg #[.int .i64 1, .slice A8 3 c8], .int .i64 0] (.int .i64 0) rfl (by kernel_rfl) rfl) ?_
  simp only [Act.put, List.setIfInBounds_toArray, List.set_cons_zero, List.set_cons_succ]
  refine wpAny_only 11 (by kernel_rfl) rfl (by kernel_rfl) ?_
  refine wp_storeD (.tmp 7) (.tmp 46) rfl rfl g7 1 A8 3 c8 (by kernel_rfl) (by kernel_rfl) HG4.out ?_
  have HBZ := Lib.hid ((HB4.out.setCell (p := ⟨g7, 0, none⟩) hg7 (.int .i64 1)).setCell (p := ⟨g7, 1, none⟩) hg7 (.slice A8 3 c8))
  have HGZ := Lib.hid (storeD_at (u0 := .int .i64 1) (u1 := .slice A8 3 c8) HG4.out)
  have HOZ := Lib.hid (own_same (w' := (V4.setCell ⟨g7, 0, none⟩ (.int .i64 1)).setCell ⟨g7, 1, none⟩ (.slice A8 3 c8)) HO4.out fun j hj => storeD_out (fun e => own_apart HO4.out HG4.out (by decide) j hj e))
  clear HB4 HX4 HP4 HS4 HI4 HT4 HG4 HO4
  generalize (V4.setCell ⟨g7, 0, none⟩ (.int .i64 1)).setCell ⟨g7, 1, none⟩ (.slice A8 3 c8) = V at HBZ HGZ HOZ ⊢
  simp only [Act.put, List.setIfInBounds_toArray, List.set_cons_zero, List.set_cons_succ]
  refine wpAny_at (i := 12) (v := .int .i64 0) (some 8) rfl rfl (by kernel_rfl) (by kernel_rfl) (by kernel_rfl) (fun _ _ _ h => h) (by kernel_rfl) (fun _ => ex_assign _ _ rfl (by kernel_rfl)) ?_
  simp only [Act.put, List.setIfInBounds_toArray, List.set_cons_zero, List.set_cons_succ]
  refine wpAny_done (by kernel_rfl) ?_ _
  rotate_left 1
  refine wp_of_valw (ex_allocD rfl) ?_
  have hal := (Below.refl V1.heap.size V1).alloc (Nat.le_refl _) (.cells #[.int .i64 0, .slice none 0 0] 41)
  have HB2 := Lib.hid (HB1.out.trans (hal.mono HB1.out.size))
  have HX2 := Lib.hid (heap_step HX1.out hal)
  have HP2 := Lib.hid (RdE.below HP1.out hal (Nat.le_refl _))
  have HS2 := Lib.hid (RdE.below HS1.out hal (Nat.le_refl _))
  have HI2 := Lib.hid (RdE.below HI1.out hal (Nat.le_refl _))
  have HG2 : Hid ((V1.alloc (.cells #[.int .i64 0, .slice none 0 0] 41)).heap[V1.heap.size]? = some (.cells #[.int .i64 0, .slice none 0 0] 41)) := heap_alloc_new V1 _
  have hg7 : w.heap.size ≤ V1.heap.size := HB1.out.size
  clear hal
  generalize V1.heap.size = g7 at HG2 hg7 ⊢
  generalize V1.alloc (.cells #[.int .i64 0, .slice none 0 0] 41) = V2 at HG2 HB2 HX2 HP2 HS2 HI2 ⊢
  simp only [Act.put, List.setIfInBounds_toArray, List.set_cons_zero, List.set_cons_succ]
  refine wpAny_only 5 (by kernel_rfl) rfl (by kernel_rfl) ?_
  refine wp_of_valw (ex_box24 (.tmp 43) (some ⟨gi, 0, none⟩) 1 1 rfl (by kernel_rfl)) ?_
  have hal := (Below.refl V2.heap.size V2).alloc (Nat.le_refl _) (.cells #[.slice (some ⟨gi, 0, none⟩) 1 1] 24)
  have HB3 := Lib.hid (HB2.out.trans (hal.mono HB2.out.size))
  have HX3 := Lib.hid (heap_step HX2.out hal)
  have HP3 := Lib.hid (RdE.below HP2.out hal (Nat.le_refl _))
  have HS3 := Lib.hid (RdE.below HS2.out hal (Nat.le_refl _))
  have HI3 := Lib.hid (RdE.below HI2.out hal (Nat.le_refl _))
  have HG3 := Lib.hid (heap_step HG2.out hal)
  have HT3 : Hid (RdTT (V2.alloc (.cells #[.slice (some ⟨gi, 0, none⟩) 1 1] 24)) (.slice (some ⟨V2.heap.size, 0, none⟩) 1 1) [knG]) := rdTT_one V2 gi knG rfl HI2.out
  clear hal
  generalize V2.heap.size = gt at HT3 ⊢
  generalize V2.alloc (.cells #[.slice (some ⟨gi, 0, none⟩) 1 1] 24) = V3 at HT3 HB3 HX3 HP3 HS3 HI3 HG3 ⊢
  simp only [Act.put, List.setIfInBounds_toArray, List.set_cons_zero, List.set_cons_succ]
  refine wpAny_only 6 (by kernel_rfl) rfl (by kernel_rfl) ?_
  refine wp_of_call (ex_callK4 _ rfl (by kernel_rfl) (by kernel_rfl) (by kernel_rfl) (by kernel_rfl) (enters_of Tryz.func32 (by kernel_rfl) rfl _ _)) (CRP.out gt V3 HB3.out HP3.out HS3.out HT3.out) ?_
  rintro e V4 ⟨A8, c8, rfl, ho, hb⟩
  have HB4 := Lib.hid (HB3.out.trans (hb.mono HB3.out.size))
  have HX4 := Lib.hid (heap_step HX3.out hb)
  have HP4 := Lib.hid (RdE.below HP3.out hb (Nat.le_refl _))
  have HS4 := Lib.hid (RdE.below HS3.out hb (Nat.le_refl _))
  have HI4 := Lib.hid (RdE.below HI3.out hb (Nat.le_refl _))
  have HT4 := Lib.hid (RdTT.below HT3.out hb (Nat.le_refl _))
  have HG4 := Lib.hid (heap_step HG3.out hb)
  have HO4 := Lib.hid (own_base ho HB3.out.size)
  clear ho hb
  refine ⟨.tuple #[.agg #[.int .i64 1, .slice A8 3 c8], .int .i64 0], rfl, ?_⟩
  simp only [Act.put, List.setIfInBounds_toArray, List.set_cons_zero, List.set_cons_succ]
  refine wpAny_at (i := 7) (v := .tuple #[.agg #[.int .i64 1, .slice A8 3 c8], .int .i64 0]) (some 38) rfl rfl (by kernel_rfl) (by kernel_rfl) (by kernel_rfl) (fun _ _ _ h => h) (by kernel_rfl) (fun _ => ex_move _ _ rfl (by kernel_rfl)) ?_
  simp only [Act.put, List.setIfInBounds_toArray, List.set_cons_zero, List.set_cons_succ]
  refine wpAny_at (i := 8) (v := .agg #[.int .i64 1, .slice A8 3 c8]) (some 46) rfl rfl (by kernel_rfl) (by kernel_rfl) (by kernel_rfl) (fun _ _ _ h => h) (by kernel_rfl) (fun _ => ex_extract _ 0 #[.agg #[.int .i64 1, .slice A8 3 c8], .int .i64 0] (.agg #[.int .i64 1, .slice A8 3 c8]) rfl (by kernel_rfl) rfl) ?_
  simp only [Act.put, List.setIfInBounds_toArray, List.set_cons_zero, List.set_cons_succ]
  refine wpAny_at (i := 9) (v := .int .i64 0) (some 47) rfl rfl (by kernel_rfl) (by kernel_rfl) (by kernel_rfl) (fun _ _ _ h => h) (by kernel_rfl) (fun _ => ex_extract _ 1 #[.agg #[.int .i64 1, .slice A8 3 c8], .int .i64 0] (.int .i64 0) rfl (by kernel_rfl) rfl) ?_
  simp only [Act.put, List.setIfInBounds_toArray, List.set_cons_zero, List.set_cons_succ]
  refine wpAny_only 11 (by kernel_rfl) rfl (by kernel_rfl) ?_
  refine wp_storeD (.tmp 7) (.tmp 46) rfl rfl g7 1 A8 3 c8 (by kernel_rfl) (by kernel_rfl) HG4.out ?_
  have HBZ := Lib.hid ((HB4.out.setCell (p := ⟨g7, 0, none⟩) hg7 (.int .i64 1)).setCell (p := ⟨g7, 1, none⟩) hg7 (.slice A8 3 c8))
  have HGZ := Lib.hid (storeD_at (u0 := .int .i64 1) (u1 := .slice A8 3 c8) HG4.out)
  have HOZ := Lib.hid (own_same (w' := (V4.setCell ⟨g7, 0, none⟩ (.int .i64 1)).setCell ⟨g7, 1, none⟩ (.slice A8 3 c8)) HO4.out fun j hj => storeD_out (fun e => own_apart HO4.out HG4.out (by decide) j hj e))
  clear HB4 HX4 HP4 HS4 HI4 HT4 HG4 HO4
  generalize (V4.setCell ⟨g7, 0, none⟩ (.int .i64 1)).setCell ⟨g7, 1, none⟩ (.slice A8 3 c8) = V at HBZ HGZ HOZ ⊢
  simp only [Act.put, List.setIfInBounds_toArray, List.set_cons_zero, List.set_cons_succ]
  refine wpAny_at (i := 12) (v := .int .i64 0) (some 8) rfl rfl (by kernel_rfl) (by kernel_rfl) (by kernel_rfl) (fun _ _ _ h => h) (by kernel_rfl) (fun _ => ex_assign _ _ rfl (by kernel_rfl)) ?_
  simp only [Act.put, List.setIfInBounds_toArray, List.set_cons_zero, List.set_cons_succ]
  refine wpAny_done (by kernel_rfl) ?_ _
  rotate_left 1
  refine wp_of_valw (ex_allocD rfl) ?_
  have hal := (Below.refl V0.heap.size V0).alloc (Nat.le_refl _) (.cells #[.int .i64 0, .slice none 0 0] 41)
  have HB1 := Lib.hid (HB0.out.trans (hal.mono HB0.out.size))
  have HX1 := Lib.hid (heap_step HX0.out hal)
  have HP1 := Lib.hid (RdE.below HP0.out hal (Nat.le_refl _))
  have HS1 := Lib.hid (RdE.below HS0.out hal (Nat.le_refl _))
  have HG1 : Hid ((V0.alloc (.cells #[.int .i64 0, .slice none 0 0] 41)).heap[V0.heap.size]? = some (.cells #[.int .i64 0, .slice none 0 0] 41)) := heap_alloc_new V0 _
  have hg7 : w.heap.size ≤ V0.heap.size := HB0.out.size
  clear hal
  generalize V0.heap.size = g7 at HG1 hg7 ⊢
  generalize V0.alloc (.cells #[.int .i64 0, .slice none 0 0] 41) = V1 at HG1 HB1 HX1 HP1 HS1 ⊢
  simp only [Act.put, List.setIfInBounds_toArray, List.set_cons_zero, List.set_cons_succ]
  refine wpAny_only 4 (by kernel_rfl) rfl (by kernel_rfl) ?_
  refine wp_of_valw (ex_box31 (.tmp 42) (⟨#[83, 105, 99, 104, 101, 114, 110, 46]⟩ : ByteArray) rfl (by kernel_rfl)) ?_
  have hal := (Below.refl V1.heap.size V1).alloc (Nat.le_refl _) (.cells #[.int .i64 1, .string (⟨#[83, 105, 99, 104, 101, 114, 110, 46]⟩ : ByteArray), .int .i64 0] 31)
  have HB2 := Lib.hid (HB1.out.trans (hal.mono HB1.out.size))
  have HX2 := Lib.hid (heap_step HX1.out hal)
  have HP2 := Lib.hid (RdE.below HP1.out hal (Nat.le_refl _))
  have HS2 := Lib.hid (RdE.below HS1.out hal (Nat.le_refl _))
  have HG2 := Lib.hid (heap_step HG1.out hal)
  have HI2 : Hid (RdT (V1.alloc (.cells #[.int .i64 1, .string (⟨#[83, 105, 99, 104, 101, 114, 110, 46]⟩ : ByteArray), .int .i64 0] 31)) (.slice (some ⟨V1.heap.size, 0, none⟩) 1 1) knG) := rdE_oneR tkC 3 tkC_three V1 _ rfl ⟨1, (⟨#[83, 105, 99, 104, 101, 114, 110, 46]⟩ : ByteArray), 0⟩ _
  clear hal
  generalize V1.heap.size = gi at HI2 ⊢
  generalize V1.alloc (.cells #[.int .i64 1, .string (⟨#[83, 105, 99, 104, 101, 114, 110, 46]⟩ : ByteArray), .int .i64 0] 31) = V2 at HI2 HB2 HX2 HP2 HS2 HG2 ⊢
  simp only [Act.put, List.setIfInBounds_toArray, List.set_cons_zero, List.set_cons_succ]
  refine wpAny_only 5 (by kernel_rfl) rfl (by kernel_rfl) ?_
  refine wp_of_valw (ex_box24 (.tmp 43) (some ⟨gi, 0, none⟩) 1 1 rfl (by kernel_rfl)) ?_
  have hal := (Below.refl V2.heap.size V2).alloc (Nat.le_refl _) (.cells #[.slice (some ⟨gi, 0, none⟩) 1 1] 24)
  have HB3 := Lib.hid (HB2.out.trans (hal.mono HB2.out.size))
  have HX3 := Lib.hid (heap_step HX2.out hal)
  have HP3 := Lib.hid (RdE.below HP2.out hal (Nat.le_refl _))
  have HS3 := Lib.hid (RdE.below HS2.out hal (Nat.le_refl _))
  have HI3 := Lib.hid (RdE.below HI2.out hal (Nat.le_refl _))
  have HG3 := Lib.hid (heap_step HG2.out hal)
  have HT3 : Hid (RdTT (V2.alloc (.cells #[.slice (some ⟨gi, 0, none⟩) 1 1] 24)) (.slice (some ⟨V2.heap.size, 0, none⟩) 1 1) [knG]) := rdTT_one V2 gi knG rfl HI2.out
  clear hal
  generalize V2.heap.size = gt at HT3 ⊢
  generalize V2.alloc (.cells #[.slice (some ⟨gi, 0, none⟩) 1 1] 24) = V3 at HT3 HB3 HX3 HP3 HS3 HI3 HG3 ⊢
  simp only [Act.put, List.setIfInBounds_toArray, List.set_cons_zero, List.set_cons_succ]
  refine wpAny_only 6 (by kernel_rfl) rfl (by kernel_rfl) ?_
  refine wp_of_call (ex_callK4 _ rfl (by kernel_rfl) (by kernel_rfl) (by kernel_rfl) (by kernel_rfl) (enters_of Tryz.func32 (by kernel_rfl) rfl _ _)) (CRP.out gt V3 HB3.out HP3.out HS3.out HT3.out) ?_
  rintro e V4 ⟨A8, c8, rfl, ho, hb⟩
  have HB4 := Lib.hid (HB3.out.trans (hb.mono HB3.out.size))
  have HX4 := Lib.hid (heap_step HX3.out hb)
  have HP4 := Lib.hid (RdE.below HP3.out hb (Nat.le_refl _))
  have HS4 := Lib.hid (RdE.below HS3.out hb (Nat.le_refl _))
  have HI4 := Lib.hid (RdE.below HI3.out hb (Nat.le_refl _))
  have HT4 := Lib.hid (RdTT.below HT3.out hb (Nat.le_refl _))
  have HG4 := Lib.hid (heap_step HG3.out hb)
  have HO4 := Lib.hid (own_base ho HB3.out.size)
  clear ho hb
  refine ⟨.tuple #[.agg #[.int .i64 1, .slice A8 3 c8], .int .i64 0], rfl, ?_⟩
  simp only [Act.put, List.setIfInBounds_toArray, List.set_cons_zero, List.set_cons_succ]
  refine wpAny_at (i := 7) (v := .tuple #[.agg #[.int .i64 1, .slice A8 3 c8], .int .i64 0]) (some 38) rfl rfl (by kernel_rfl) (by kernel_rfl) (by kernel_rfl) (fun _ _ _ h => h) (by kernel_rfl) (fun _ => ex_move _ _ rfl (by kernel_rfl)) ?_
  simp only [Act.put, List.setIfInBounds_toArray, List.set_cons_zero, List.set_cons_succ]
  refine wpAny_at (i := 8) (v := .agg #[.int .i64 1, .slice A8 3 c8]) (some 46) rfl rfl (by kernel_rfl) (by kernel_rfl) (by kernel_rfl) (fun _ _ _ h => h) (by kernel_rfl) (fun _ => ex_extract _ 0 #[.agg #[.int .i64 1, .slice A8 3 c8], .int .i64 0] (.agg #[.int .i64 1, .slice A8 3 c8]) rfl (by kernel_rfl) rfl) ?_
  simp only [Act.put, List.setIfInBounds_toArray, List.set_cons_zero, List.set_cons_succ]
  refine wpAny_at (i := 9) (v := .int .i64 0) (some 47) rfl rfl (by kernel_rfl) (by kernel_rfl) (by kernel_rfl) (fun _ _ _ h => h) (by kernel_rfl) (fun _ => ex_extract _ 1 #[.agg #[.int .i64 1, .slice A8 3 c8], .int .i64 0] (.int .i64 0) rfl (by kernel_rfl) rfl) ?_
  simp only [Act.put, List.setIfInBounds_toArray, List.set_cons_zero, List.set_cons_succ]
  refine wpAny_only 11 (by kernel_rfl) rfl (by kernel_rfl) ?_
  refine wp_storeD (.tmp 7) (.tmp 46) rfl rfl g7 1 A8 3 c8 (by kernel_rfl) (by kernel_rfl) HG4.out ?_
  have HBZ := Lib.hid ((HB4.out.setCell (p := ⟨g7, 0, none⟩) hg7 (.int .i64 1)).setCell (p := ⟨g7, 1, none⟩) hg7 (.slice A8 3 c8))
  have HGZ := Lib.hid (storeD_at (u0 := .int .i64 1) (u1 := .slice A8 3 c8) HG4.out)
  have HOZ := Lib.hid (own_same (w' := (V4.setCell ⟨g7, 0, none⟩ (.int .i64 1)).setCell ⟨g7, 1, none⟩ (.slice A8 3 c8)) HO4.out fun j hj => storeD_out (fun e => own_apart HO4.out HG4.out (by decide) j hj e))
  clear HB4 HX4 HP4 HS4 HI4 HT4 HG4 HO4
  generalize (V4.setCell ⟨g7, 0, none⟩ (.int .i64 1)).setCell ⟨g7, 1, none⟩ (.slice A8 3 c8) = V at HBZ HGZ HOZ ⊢
  simp only [Act.put, List.setIfInBounds_toArray, List.set_cons_zero, List.set_cons_succ]
  refine wpAny_at (i := 12) (v := .int .i64 0) (some 8) rfl rfl (by kernel_rfl) (by kernel_rfl) (by kernel_rfl) (fun _ _ _ h => h) (by kernel_rfl) (fun _ => ex_assign _ _ rfl (by kernel_rfl)) ?_
  simp only [Act.put, List.setIfInBounds_toArray, List.set_cons_zero, List.set_cons_succ]
  refine wpAny_done (by kernel_rfl) ?_ _
  rotate_left 1
  refine wp_of_valw (ex_box31 (.tmp 42) (⟨#[83, 105, 99, 104, 101, 114, 110, 46]⟩ : ByteArray) rfl (by kernel_rfl)) ?_
  have hal := (Below.refl V0.heap.size V0).alloc (Nat.le_refl _) (.cells #[.int .i64 1, .string (⟨#[83, 105, 99, 104, 101, 114, 110, 46]⟩ : ByteArray), .int .i64 0] 31)
  have HB1 := Lib.hid (HB0.out.trans (hal.mono HB0.out.size))
  have HX1 := Lib.hid (heap_step HX0.out hal)
  have HP1 := Lib.hid (RdE.below HP0.out hal (Nat.le_refl _))
  have HS1 := Lib.hid (RdE.below HS0.out hal (Nat.le_refl _))
  have HI1 : Hid (RdT (V0.alloc (.cells #[.int .i64 1, .string (⟨#[83, 105, 99, 104, 101, 114, 110, 46]⟩ : ByteArray), .int .i64 0] 31)) (.slice (some ⟨V0.heap.size, 0, none⟩) 1 1) knG) := rdE_oneR tkC 3 tkC_three V0 _ rfl ⟨1, (⟨#[83, 105, 99, 104, 101, 114, 110, 46]⟩ : ByteArray), 0⟩ _
  clear hal
  generalize V0.heap.size = gi at HI1 ⊢
  generalize V0.alloc (.cells #[.int .i64 1, .string (⟨#[83, 105, 99, 104, 101, 114, 110, 46]⟩ : ByteArray), .int .i64 0] 31) = V1 at HI1 HB1 HX1 HP1 HS1 ⊢
  simp only [Act.put, List.setIfInBounds_toArray, List.set_cons_zero, List.set_cons_succ]
  refine wpAny_ops3 0 5 10 (by kernel_rfl) rfl rfl rfl (by kernel_rfl) (by kernel_rfl) (by kernel_rfl) ?_ ?_ ?_
  refine wp_of_val (v := .agg #[.int .i64 1, .slice A 3 c]) (ex_load 41 _ (.pointer (some ⟨g, 0, none⟩)) _ rfl (by kernel_rfl) (ldT_doc (bx2 HX1.out).1 (bx2 HX1.out).2.1)) ?_
  simp only [Act.put, List.setIfInBounds_toArray, List.set_cons_zero, List.set_cons_succ]
  refine wpAny_two 5 10 (by kernel_rfl) rfl rfl (by kernel_rfl) (by kernel_rfl) ?_ ?_
  refine wp_of_valw (ex_box24 (.tmp 43) (some ⟨gi, 0, none⟩) 1 1 rfl (by kernel_rfl)) ?_
  have hal := (Below.refl V1.heap.size V1).alloc (Nat.le_refl _) (.cells #[.slice (some ⟨gi, 0, none⟩) 1 1] 24)
  have HB2 := Lib.hid (HB1.out.trans (hal.mono HB1.out.size))
  have HX2 := Lib.hid (heap_step HX1.out hal)
  have HP2 := Lib.hid (RdE.below HP1.out hal (Nat.le_refl _))
  have HS2 := Lib.hid (RdE.below HS1.out hal (Nat.le_refl _))
  have HI2 := Lib.hid (RdE.below HI1.out hal (Nat.le_refl _))
  have HT2 : Hid (RdTT (V1.alloc (.cells #[.slice (some ⟨gi, 0, none⟩) 1 1] 24)) (.slice (some ⟨V1.heap.size, 0, none⟩) 1 1) [knG]) := rdTT_one V1 gi knG rfl HI1.out
  clear hal
  generalize V1.heap.size = gt at HT2 ⊢
  generalize V1.alloc (.cells #[.slice (some ⟨gi, 0, none⟩) 1 1] 24) = V2 at HT2 HB2 HX2 HP2 HS2 HI2 ⊢
  simp only [Act.put, List.setIfInBounds_toArray, List.set_cons_zero, List.set_cons_succ]
  refine wpAny_two 6 10 (by kernel_rfl) rfl rfl (by kernel_rfl) (by kernel_rfl) ?_ ?_
  refine wp_of_call (ex_callK4 _ rfl (by kernel_rfl) (by kernel_rfl) (by kernel_rfl) (by kernel_rfl) (enters_of Tryz.func32 (by kernel_rfl) rfl _ _)) (CRP.out gt V2 HB2.out HP2.out HS2.out HT2.out) ?_
  rintro e V3 ⟨A8, c8, rfl, ho, hb⟩
  have HB3 := Lib.hid (HB2.out.trans (hb.mono HB2.out.size))
  have HX3 := Lib.hid (heap_step HX2.out hb)
  have HP3 := Lib.hid (RdE.below HP2.out hb (Nat.le_refl _))
  have HS3 := Lib.hid (RdE.below HS2.out hb (Nat.le_refl _))
  have HI3 := Lib.hid (RdE.below HI2.out hb (Nat.le_refl _))
  have HT3 := Lib.hid (RdTT.below HT2.out hb (Nat.le_refl _))
  have HO3 := Lib.hid (own_base ho HB2.out.size)
  clear ho hb
  refine ⟨.tuple #[.agg #[.int .i64 1, .slice A8 3 c8], .int .i64 0], rfl, ?_⟩
  simp only [Act.put, List.setIfInBounds_toArray, List.set_cons_zero, List.set_cons_succ]
  refine wpAny_at (i := 7) (v := .tuple #[.agg #[.int .i64 1, .slice A8 3 c8], .int .i64 0]) (some 38) rfl rfl (by kernel_rfl) (by kernel_rfl) (by kernel_rfl) (fun _ _ _ h => h) (by kernel_rfl) (fun _ => ex_move _ _ rfl (by kernel_rfl)) ?_
  simp only [Act.put, List.setIfInBounds_toArray, List.set_cons_zero, List.set_cons_succ]
  refine wpAny_at (i := 8) (v := .agg #[.int .i64 1, .slice A8 3 c8]) (some 46) rfl rfl (by kernel_rfl) (by kernel_rfl) (by kernel_rfl) (fun _ _ _ h => h) (by kernel_rfl) (fun _ => ex_extract _ 0 #[.agg #[.int .i64 1, .slice A8 3 c8], .int .i64 0] (.agg #[.int .i64 1, .slice A8 3 c8]) rfl (by kernel_rfl) rfl) ?_
  simp only [Act.put, List.setIfInBounds_toArray, List.set_cons_zero, List.set_cons_succ]
  refine wpAny_at (i := 9) (v := .int .i64 0) (some 47) rfl rfl (by kernel_rfl) (by kernel_rfl) (by kernel_rfl) (fun _ _ _ h => h) (by kernel_rfl) (fun _ => ex_extract _ 1 #[.agg #[.int .i64 1, .slice A8 3 c8], .int .i64 0] (.int .i64 0) rfl (by kernel_rfl) rfl) ?_
  simp only [Act.put, List.setIfInBounds_toArray, List.set_cons_zero, List.set_cons_succ]
  refine wpAny_only 10 (by kernel_rfl) rfl (by kernel_rfl) ?_
  refine wp_of_valw (ex_allocD rfl) ?_
  have hal := (Below.refl V3.heap.size V3).alloc (Nat.le_refl _) (.cells #[.int .i64 0, .slice none 0 0] 41)
  have HB4 := Lib.hid (HB3.out.trans (hal.mono HB3.out.size))
  have HX4 := Lib.hid (heap_step HX3.out hal)
  have HP4 := Lib.hid (RdE.below HP3.out hal (Nat.le_refl _))
  have HS4 := Lib.hid (RdE.below HS3.out hal (Nat.le_refl _))
  have HI4 := Lib.hid (RdE.below HI3.out hal (Nat.le_refl _))
  have HT4 := Lib.hid (RdTT.below HT3.out hal (Nat.le_refl _))
  have HO4 := Lib.hid (own_step HO3.out hal)
  have HG4 : Hid ((V3.alloc (.cells #[.int .i64 0, .slice none 0 0] 41)).heap[V3.heap.size]? = some (.cells #[.int .i64 0, .slice none 0 0] 41)) := heap_alloc_new V3 _
  have hg7 : w.heap.size ≤ V3.heap.size := HB3.out.size
  clear hal
  generalize V3.heap.size = g7 at HG4 hg7 ⊢
  generalize V3.alloc (.cells #[.int .i64 0, .slice none 0 0] 41) = V4 at HG4 HB4 HX4 HP4 HS4 HI4 HT4 HO4 ⊢
  simp only [Act.put, List.setIfInBounds_toArray, List.set_cons_zero, List.set_cons_succ]
  refine wpAny_only 11 (by kernel_rfl) rfl (by kernel_rfl) ?_
  refine wp_storeD (.tmp 7) (.tmp 46) rfl rfl g7 1 A8 3 c8 (by kernel_rfl) (by kernel_rfl) HG4.out ?_
  have HBZ := Lib.hid ((HB4.out.setCell (p := ⟨g7, 0, none⟩) hg7 (.int .i64 1)).setCell (p := ⟨g7, 1, none⟩) hg7 (.slice A8 3 c8))
  have HGZ := Lib.hid (storeD_at (u0 := .int .i64 1) (u1 := .slice A8 3 c8) HG4.out)
  have HOZ := Lib.hid (own_same (w' := (V4.setCell ⟨g7, 0, none⟩ (.int .i64 1)).setCell ⟨g7, 1, none⟩ (.slice A8 3 c8)) HO4.out fun j hj => storeD_out (fun e => own_apart HO4.out HG4.out (by decide) j hj e))
  clear HB4 HX4 HP4 HS4 HI4 HT4 HG4 HO4
  generalize (V4.setCell ⟨g7, 0, none⟩ (.int .i64 1)).setCell ⟨g7, 1, none⟩ (.slice A8 3 c8) = V at HBZ HGZ HOZ ⊢
  simp only [Act.put, List.setIfInBounds_toArray, List.set_cons_zero, List.set_cons_succ]
  refine wpAny_at (i := 12) (v := .int .i64 0) (some 8) rfl rfl (by kernel_rfl) (by kernel_rfl) (by kernel_rfl) (fun _ _ _ h => h) (by kernel_rfl) (fun _ => ex_assign _ _ rfl (by kernel_rfl)) ?_
  simp only [Act.put, List.setIfInBounds_toArray, List.set_cons_zero, List.set_cons_succ]
  refine wpAny_done (by kernel_rfl) ?_ _
  rotate_left 1
  refine wp_of_valw (ex_allocD rfl) ?_
  have hal := (Below.refl V2.heap.size V2).alloc (Nat.le_refl _) (.cells #[.int .i64 0, .slice none 0 0] 41)
  have HB3 := Lib.hid (HB2.out.trans (hal.mono HB2.out.size))
  have HX3 := Lib.hid (heap_step HX2.out hal)
  have HP3 := Lib.hid (RdE.below HP2.out hal (Nat.le_refl _))
  have HS3 := Lib.hid (RdE.below HS2.out hal (Nat.le_refl _))
  have HI3 := Lib.hid (RdE.below HI2.out hal (Nat.le_refl _))
  have HT3 := Lib.hid (RdTT.below HT2.out hal (Nat.le_refl _))
  have HG3 : Hid ((V2.alloc (.cells #[.int .i64 0, .slice none 0 0] 41)).heap[V2.heap.size]? = some (.cells #[.int .i64 0, .slice none 0 0] 41)) := heap_alloc_new V2 _
  have hg7 : w.heap.size ≤ V2.heap.size := HB2.out.size
  clear hal
  generalize V2.heap.size = g7 at HG3 hg7 ⊢
  generalize V2.alloc (.cells #[.int .i64 0, .slice none 0 0] 41) = V3 at HG3 HB3 HX3 HP3 HS3 HI3 HT3 ⊢
  simp only [Act.put, List.setIfInBounds_toArray, List.set_cons_zero, List.set_cons_succ]
  refine wpAny_only 6 (by kernel_rfl) rfl (by kernel_rfl) ?_
  refine wp_of_call (ex_callK4 _ rfl (by kernel_rfl) (by kernel_rfl) (by kernel_rfl) (by kernel_rfl) (enters_of Tryz.func32 (by kernel_rfl) rfl _ _)) (CRP.out gt V3 HB3.out HP3.out HS3.out HT3.out) ?_
  rintro e V4 ⟨A8, c8, rfl, ho, hb⟩
  have HB4 := Lib.hid (HB3.out.trans (hb.mono HB3.out.size))
  have HX4 := Lib.hid (heap_step HX3.out hb)
  have HP4 := Lib.hid (RdE.below HP3.out hb (Nat.le_refl _))
  have HS4 := Lib.hid (RdE.below HS3.out hb (Nat.le_refl _))
  have HI4 := Lib.hid (RdE.below HI3.out hb (Nat.le_refl _))
  have HT4 := Lib.hid (RdTT.below HT3.out hb (Nat.le_refl _))
  have HG4 := Lib.hid (heap_step HG3.out hb)
  have HO4 := Lib.hid (own_base ho HB3.out.size)
  clear ho hb
  refine ⟨.tuple #[.agg #[.int .i64 1, .slice A8 3 c8], .int .i64 0], rfl, ?_⟩
  simp only [Act.put, List.setIfInBounds_toArray, List.set_cons_zero, List.set_cons_succ]
  refine wpAny_at (i := 7) (v := .tuple #[.agg #[.int .i64 1, .slice A8 3 c8], .int .i64 0]) (some 38) rfl rfl (by kernel_rfl) (by kernel_rfl) (by kernel_rfl) (fun _ _ _ h => h) (by kernel_rfl) (fun _ => ex_move _ _ rfl (by kernel_rfl)) ?_
  simp only [Act.put, List.setIfInBounds_toArray, List.set_cons_zero, List.set_cons_succ]
  refine wpAny_at (i := 8) (v := .agg #[.int .i64 1, .slice A8 3 c8]) (some 46) rfl rfl (by kernel_rfl) (by kernel_rfl) (by kernel_rfl) (fun _ _ _ h => h) (by kernel_rfl) (fun _ => ex_extract _ 0 #[.agg #[.int .i64 1, .slice A8 3 c8], .int .i64 0] (.agg #[.int .i64 1, .slice A8 3 c8]) rfl (by kernel_rfl) rfl) ?_
  simp only [Act.put, List.setIfInBounds_toArray, List.set_cons_zero, List.set_cons_succ]
  refine wpAny_at (i := 9) (v := .int .i64 0) (some 47) rfl rfl (by kernel_rfl) (by kernel_rfl) (by kernel_rfl) (fun _ _ _ h => h) (by kernel_rfl) (fun _ => ex_extract _ 1 #[.agg #[.int .i64 1, .slice A8 3 c8], .int .i64 0] (.int .i64 0) rfl (by kernel_rfl) rfl) ?_
  simp only [Act.put, List.setIfInBounds_toArray, List.set_cons_zero, List.set_cons_succ]
  refine wpAny_only 11 (by kernel_rfl) rfl (by kernel_rfl) ?_
  refine wp_storeD (.tmp 7) (.tmp 46) rfl rfl g7 1 A8 3 c8 (by kernel_rfl) (by kernel_rfl) HG4.out ?_
  have HBZ := Lib.hid ((HB4.out.setCell (p := ⟨g7, 0, none⟩) hg7 (.int .i64 1)).setCell (p := ⟨g7, 1, none⟩) hg7 (.slice A8 3 c8))
  have HGZ := Lib.hid (storeD_at (u0 := .int .i64 1) (u1 := .slice A8 3 c8) HG4.out)
  have HOZ := Lib.hid (own_same (w' := (V4.setCell ⟨g7, 0, none⟩ (.int .i64 1)).setCell ⟨g7, 1, none⟩ (.slice A8 3 c8)) HO4.out fun j hj => storeD_out (fun e => own_apart HO4.out HG4.out (by decide) j hj e))
  clear HB4 HX4 HP4 HS4 HI4 HT4 HG4 HO4
  generalize (V4.setCell ⟨g7, 0, none⟩ (.int .i64 1)).setCell ⟨g7, 1, none⟩ (.slice A8 3 c8) = V at HBZ HGZ HOZ ⊢
  simp only [Act.put, List.setIfInBounds_toArray, List.set_cons_zero, List.set_cons_succ]
  refine wpAny_at (i := 12) (v := .int .i64 0) (some 8) rfl rfl (by kernel_rfl) (by kernel_rfl) (by kernel_rfl) (fun _ _ _ h => h) (by kernel_rfl) (fun _ => ex_assign _ _ rfl (by kernel_rfl)) ?_
  simp only [Act.put, List.setIfInBounds_toArray, List.set_cons_zero, List.set_cons_succ]
  refine wpAny_done (by kernel_rfl) ?_ _
  rotate_left 1
  refine wp_of_valw (ex_allocD rfl) ?_
  have hal := (Below.refl V1.heap.size V1).alloc (Nat.le_refl _) (.cells #[.int .i64 0, .slice none 0 0] 41)
  have HB2 := Lib.hid (HB1.out.trans (hal.mono HB1.out.size))
  have HX2 := Lib.hid (heap_step HX1.out hal)
  have HP2 := Lib.hid (RdE.below HP1.out hal (Nat.le_refl _))
  have HS2 := Lib.hid (RdE.below HS1.out hal (Nat.le_refl _))
  have HI2 := Lib.hid (RdE.below HI1.out hal (Nat.le_refl _))
  have HG2 : Hid ((V1.alloc (.cells #[.int .i64 0, .slice none 0 0] 41)).heap[V1.heap.size]? = some (.cells #[.int .i64 0, .slice none 0 0] 41)) := heap_alloc_new V1 _
  have hg7 : w.heap.size ≤ V1.heap.size := HB1.out.size
  clear hal
  generalize V1.heap.size = g7 at HG2 hg7 ⊢
  generalize V1.alloc (.cells #[.int .i64 0, .slice none 0 0] 41) = V2 at HG2 HB2 HX2 HP2 HS2 HI2 ⊢
  simp only [Act.put, List.setIfInBounds_toArray, List.set_cons_zero, List.set_cons_succ]
  refine wpAny_only 5 (by kernel_rfl) rfl (by kernel_rfl) ?_
  refine wp_of_valw (ex_box24 (.tmp 43) (some ⟨gi, 0, none⟩) 1 1 rfl (by kernel_rfl)) ?_
  have hal := (Below.refl V2.heap.size V2).alloc (Nat.le_refl _) (.cells #[.slice (some ⟨gi, 0, none⟩) 1 1] 24)
  have HB3 := Lib.hid (HB2.out.trans (hal.mono HB2.out.size))
  have HX3 := Lib.hid (heap_step HX2.out hal)
  have HP3 := Lib.hid (RdE.below HP2.out hal (Nat.le_refl _))
  have HS3 := Lib.hid (RdE.below HS2.out hal (Nat.le_refl _))
  have HI3 := Lib.hid (RdE.below HI2.out hal (Nat.le_refl _))
  have HG3 := Lib.hid (heap_step HG2.out hal)
  have HT3 : Hid (RdTT (V2.alloc (.cells #[.slice (some ⟨gi, 0, none⟩) 1 1] 24)) (.slice (some ⟨V2.heap.size, 0, none⟩) 1 1) [knG]) := rdTT_one V2 gi knG rfl HI2.out
  clear hal
  generalize V2.heap.size = gt at HT3 ⊢
  generalize V2.alloc (.cells #[.slice (some ⟨gi, 0, none⟩) 1 1] 24) = V3 at HT3 HB3 HX3 HP3 HS3 HI3 HG3 ⊢
  simp only [Act.put, List.setIfInBounds_toArray, List.set_cons_zero, List.set_cons_succ]
  refine wpAny_only 6 (by kernel_rfl) rfl (by kernel_rfl) ?_
  refine wp_of_call (ex_callK4 _ rfl (by kernel_rfl) (by kernel_rfl) (by kernel_rfl) (by kernel_rfl) (enters_of Tryz.func32 (by kernel_rfl) rfl _ _)) (CRP.out gt V3 HB3.out HP3.out HS3.out HT3.out) ?_
  rintro e V4 ⟨A8, c8, rfl, ho, hb⟩
  have HB4 := Lib.hid (HB3.out.trans (hb.mono HB3.out.size))
  have HX4 := Lib.hid (heap_step HX3.out hb)
  have HP4 := Lib.hid (RdE.below HP3.out hb (Nat.le_refl _))
  have HS4 := Lib.hid (RdE.below HS3.out hb (Nat.le_refl _))
  have HI4 := Lib.hid (RdE.below HI3.out hb (Nat.le_refl _))
  have HT4 := Lib.hid (RdTT.below HT3.out hb (Nat.le_refl _))
  have HG4 := Lib.hid (heap_step HG3.out hb)
  have HO4 := Lib.hid (own_base ho HB3.out.size)
  clear ho hb
  refine ⟨.tuple #[.agg #[.int .i64 1, .slice A8 3 c8], .int .i64 0], rfl, ?_⟩
  simp only [Act.put, List.setIfInBounds_toArray, List.set_cons_zero, List.set_cons_succ]
  refine wpAny_at (i := 7) (v := .tuple #[.agg #[.int .i64 1, .slice A8 3 c8], .int .i64 0]) (some 38) rfl rfl (by kernel_rfl) (by kernel_rfl) (by kernel_rfl) (fun _ _ _ h => h) (by kernel_rfl) (fun _ => ex_move _ _ rfl (by kernel_rfl)) ?_
  simp only [Act.put, List.setIfInBounds_toArray, List.set_cons_zero, List.set_cons_succ]
  refine wpAny_at (i := 8) (v := .agg #[.int .i64 1, .slice A8 3 c8]) (some 46) rfl rfl (by kernel_rfl) (by kernel_rfl) (by kernel_rfl) (fun _ _ _ h => h) (by kernel_rfl) (fun _ => ex_extract _ 0 #[.agg #[.int .i64 1, .slice A8 3 c8], .int .i64 0] (.agg #[.int .i64 1, .slice A8 3 c8]) rfl (by kernel_rfl) rfl) ?_
  simp only [Act.put, List.setIfInBounds_toArray, List.set_cons_zero, List.set_cons_succ]
  refine wpAny_at (i := 9) (v := .int .i64 0) (some 47) rfl rfl (by kernel_rfl) (by kernel_rfl) (by kernel_rfl) (fun _ _ _ h => h) (by kernel_rfl) (fun _ => ex_extract _ 1 #[.agg #[.int .i64 1, .slice A8 3 c8], .int .i64 0] (.int .i64 0) rfl (by kernel_rfl) rfl) ?_
  simp only [Act.put, List.setIfInBounds_toArray, List.set_cons_zero, List.set_cons_succ]
  refine wpAny_only 11 (by kernel_rfl) rfl (by kernel_rfl) ?_
  refine wp_storeD (.tmp 7) (.tmp 46) rfl rfl g7 1 A8 3 c8 (by kernel_rfl) (by kernel_rfl) HG4.out ?_
  have HBZ := Lib.hid ((HB4.out.setCell (p := ⟨g7, 0, none⟩) hg7 (.int .i64 1)).setCell (p := ⟨g7, 1, none⟩) hg7 (.slice A8 3 c8))
  have HGZ := Lib.hid (storeD_at (u0 := .int .i64 1) (u1 := .slice A8 3 c8) HG4.out)
  have HOZ := Lib.hid (own_same (w' := (V4.setCell ⟨g7, 0, none⟩ (.int .i64 1)).setCell ⟨g7, 1, none⟩ (.slice A8 3 c8)) HO4.out fun j hj => storeD_out (fun e => own_apart HO4.out HG4.out (by decide) j hj e))
  clear HB4 HX4 HP4 HS4 HI4 HT4 HG4 HO4
  generalize (V4.setCell ⟨g7, 0, none⟩ (.int .i64 1)).setCell ⟨g7, 1, none⟩ (.slice A8 3 c8) = V at HBZ HGZ HOZ ⊢
  simp only [Act.put, List.setIfInBounds_toArray, List.set_cons_zero, List.set_cons_succ]
  refine wpAny_at (i := 12) (v := .int .i64 0) (some 8) rfl rfl (by kernel_rfl) (by kernel_rfl) (by kernel_rfl) (fun _ _ _ h => h) (by kernel_rfl) (fun _ => ex_assign _ _ rfl (by kernel_rfl)) ?_
  simp only [Act.put, List.setIfInBounds_toArray, List.set_cons_zero, List.set_cons_succ]
  refine wpAny_done (by kernel_rfl) ?_ _
  rotate_left 1
  refine wp_of_valw (ex_box24 (.tmp 43) (some ⟨gi, 0, none⟩) 1 1 rfl (by kernel_rfl)) ?_
  have hal := (Below.refl V1.heap.size V1).alloc (Nat.le_refl _) (.cells #[.slice (some ⟨gi, 0, none⟩) 1 1] 24)
  have HB2 := Lib.hid (HB1.out.trans (hal.mono HB1.out.size))
  have HX2 := Lib.hid (heap_step HX1.out hal)
  have HP2 := Lib.hid (RdE.below HP1.out hal (Nat.le_refl _))
  have HS2 := Lib.hid (RdE.below HS1.out hal (Nat.le_refl _))
  have HI2 := Lib.hid (RdE.below HI1.out hal (Nat.le_refl _))
  have HT2 : Hid (RdTT (V1.alloc (.cells #[.slice (some ⟨gi, 0, none⟩) 1 1] 24)) (.slice (some ⟨V1.heap.size, 0, none⟩) 1 1) [knG]) := rdTT_one V1 gi knG rfl HI1.out
  clear hal
  generalize V1.heap.size = gt at HT2 ⊢
  generalize V1.alloc (.cells #[.slice (some ⟨gi, 0, none⟩) 1 1] 24) = V2 at HT2 HB2 HX2 HP2 HS2 HI2 ⊢
  simp only [Act.put, List.setIfInBounds_toArray, List.set_cons_zero, List.set_cons_succ]
  refine wpAny_two 0 10 (by kernel_rfl) rfl rfl (by kernel_rfl) (by kernel_rfl) ?_ ?_
  refine wp_of_val (v := .agg #[.int .i64 1, .slice A 3 c]) (ex_load 41 _ (.pointer (some ⟨g, 0, none⟩)) _ rfl (by kernel_rfl) (ldT_doc (bx2 HX2.out).1 (bx2 HX2.out).2.1)) ?_
  simp only [Act.put, List.setIfInBounds_toArray, List.set_cons_zero, List.set_cons_succ]
  refine wpAny_two 6 10 (by kernel_rfl) rfl rfl (by kernel_rfl) (by kernel_rfl) ?_ ?_
  refine wp_of_call (ex_callK4 _ rfl (by kernel_rfl) (by kernel_rfl) (by kernel_rfl) (by kernel_rfl) (enters_of Tryz.func32 (by kernel_rfl) rfl _ _)) (CRP.out gt V2 HB2.out HP2.out HS2.out HT2.out) ?_
  rintro e V3 ⟨A8, c8, rfl, ho, hb⟩
  have HB3 := Lib.hid (HB2.out.trans (hb.mono HB2.out.size))
  have HX3 := Lib.hid (heap_step HX2.out hb)
  have HP3 := Lib.hid (RdE.below HP2.out hb (Nat.le_refl _))
  have HS3 := Lib.hid (RdE.below HS2.out hb (Nat.le_refl _))
  have HI3 := Lib.hid (RdE.below HI2.out hb (Nat.le_refl _))
  have HT3 := Lib.hid (RdTT.below HT2.out hb (Nat.le_refl _))
  have HO3 := Lib.hid (own_base ho HB2.out.size)
  clear ho hb
  refine ⟨.tuple #[.agg #[.int .i64 1, .slice A8 3 c8], .int .i64 0], rfl, ?_⟩
  simp only [Act.put, List.setIfInBounds_toArray, List.set_cons_zero, List.set_cons_succ]
  refine wpAny_at (i := 7) (v := .tuple #[.agg #[.int .i64 1, .slice A8 3 c8], .int .i64 0]) (some 38) rfl rfl (by kernel_rfl) (by kernel_rfl) (by kernel_rfl) (fun _ _ _ h => h) (by kernel_rfl) (fun _ => ex_move _ _ rfl (by kernel_rfl)) ?_
  simp only [Act.put, List.setIfInBounds_toArray, List.set_cons_zero, List.set_cons_succ]
  refine wpAny_at (i := 8) (v := .agg #[.int .i64 1, .slice A8 3 c8]) (some 46) rfl rfl (by kernel_rfl) (by kernel_rfl) (by kernel_rfl) (fun _ _ _ h => h) (by kernel_rfl) (fun _ => ex_extract _ 0 #[.agg #[.int .i64 1, .slice A8 3 c8], .int .i64 0] (.agg #[.int .i64 1, .slice A8 3 c8]) rfl (by kernel_rfl) rfl) ?_
  simp only [Act.put, List.setIfInBounds_toArray, List.set_cons_zero, List.set_cons_succ]
  refine wpAny_at (i := 9) (v := .int .i64 0) (some 47) rfl rfl (by kernel_rfl) (by kernel_rfl) (by kernel_rfl) (fun _ _ _ h => h) (by kernel_rfl) (fun _ => ex_extract _ 1 #[.agg #[.int .i64 1, .slice A8 3 c8], .int .i64 0] (.int .i64 0) rfl (by kernel_rfl) rfl) ?_
  simp only [Act.put, List.setIfInBounds_toArray, List.set_cons_zero, List.set_cons_succ]
  refine wpAny_only 10 (by kernel_rfl) rfl (by kernel_rfl) ?_
  refine wp_of_valw (ex_allocD rfl) ?_
  have hal := (Below.refl V3.heap.size V3).alloc (Nat.le_refl _) (.cells #[.int .i64 0, .slice none 0 0] 41)
  have HB4 := Lib.hid (HB3.out.trans (hal.mono HB3.out.size))
  have HX4 := Lib.hid (heap_step HX3.out hal)
  have HP4 := Lib.hid (RdE.below HP3.out hal (Nat.le_refl _))
  have HS4 := Lib.hid (RdE.below HS3.out hal (Nat.le_refl _))
  have HI4 := Lib.hid (RdE.below HI3.out hal (Nat.le_refl _))
  have HT4 := Lib.hid (RdTT.below HT3.out hal (Nat.le_refl _))
  have HO4 := Lib.hid (own_step HO3.out hal)
  have HG4 : Hid ((V3.alloc (.cells #[.int .i64 0, .slice none 0 0] 41)).heap[V3.heap.size]? = some (.cells #[.int .i64 0, .slice none 0 0] 41)) := heap_alloc_new V3 _
  have hg7 : w.heap.size ≤ V3.heap.size := HB3.out.size
  clear hal
  generalize V3.heap.size = g7 at HG4 hg7 ⊢
  generalize V3.alloc (.cells #[.int .i64 0, .slice none 0 0] 41) = V4 at HG4 HB4 HX4 HP4 HS4 HI4 HT4 HO4 ⊢
  simp only [Act.put, List.setIfInBounds_toArray, List.set_cons_zero, List.set_cons_succ]
  refine wpAny_only 11 (by kernel_rfl) rfl (by kernel_rfl) ?_
  refine wp_storeD (.tmp 7) (.tmp 46) rfl rfl g7 1 A8 3 c8 (by kernel_rfl) (by kernel_rfl) HG4.out ?_
  have HBZ := Lib.hid ((HB4.out.setCell (p := ⟨g7, 0, none⟩) hg7 (.int .i64 1)).setCell (p := ⟨g7, 1, none⟩) hg7 (.slice A8 3 c8))
  have HGZ := Lib.hid (storeD_at (u0 := .int .i64 1) (u1 := .slice A8 3 c8) HG4.out)
  have HOZ := Lib.hid (own_same (w' := (V4.setCell ⟨g7, 0, none⟩ (.int .i64 1)).setCell ⟨g7, 1, none⟩ (.slice A8 3 c8)) HO4.out fun j hj => storeD_out (fun e => own_apart HO4.out HG4.out (by decide) j hj e))
  clear HB4 HX4 HP4 HS4 HI4 HT4 HG4 HO4
  generalize (V4.setCell ⟨g7, 0, none⟩ (.int .i64 1)).setCell ⟨g7, 1, none⟩ (.slice A8 3 c8) = V at HBZ HGZ HOZ ⊢
  simp only [Act.put, List.setIfInBounds_toArray, List.set_cons_zero, List.set_cons_succ]
  refine wpAny_at (i := 12) (v := .int .i64 0) (some 8) rfl rfl (by kernel_rfl) (by kernel_rfl) (by kernel_rfl) (fun _ _ _ h => h) (by kernel_rfl) (fun _ => ex_assign _ _ rfl (by kernel_rfl)) ?_
  simp only [Act.put, List.setIfInBounds_toArray, List.set_cons_zero, List.set_cons_succ]
  refine wpAny_done (by kernel_rfl) ?_ _
  rotate_left 1
  refine wp_of_valw (ex_allocD rfl) ?_
  have hal := (Below.refl V2.heap.size V2).alloc (Nat.le_refl _) (.cells #[.int .i64 0, .slice none 0 0] 41)
  have HB3 := Lib.hid (HB2.out.trans (hal.mono HB2.out.size))
  have HX3 := Lib.hid (heap_step HX2.out hal)
  have HP3 := Lib.hid (RdE.below HP2.out hal (Nat.le_refl _))
  have HS3 := Lib.hid (RdE.below HS2.out hal (Nat.le_refl _))
  have HI3 := Lib.hid (RdE.below HI2.out hal (Nat.le_refl _))
  have HT3 := Lib.hid (RdTT.below HT2.out hal (Nat.le_refl _))
  have HG3 : Hid ((V2.alloc (.cells #[.int .i64 0, .slice none 0 0] 41)).heap[V2.heap.size]? = some (.cells #[.int .i64 0, .slice none 0 0] 41)) := heap_alloc_new V2 _
  have hg7 : w.heap.size ≤ V2.heap.size := HB2.out.size
  clear hal
  generalize V2.heap.size = g7 at HG3 hg7 ⊢
  generalize V2.alloc (.cells #[.int .i64 0, .slice none 0 0] 41) = V3 at HG3 HB3 HX3 HP3 HS3 HI3 HT3 ⊢
  simp only [Act.put, List.setIfInBounds_toArray, List.set_cons_zero, List.set_cons_succ]
  refine wpAny_only 6 (by kernel_rfl) rfl (by kernel_rfl) ?_
  refine wp_of_call (ex_callK4 _ rfl (by kernel_rfl) (by kernel_rfl) (by kernel_rfl) (by kernel_rfl) (enters_of Tryz.func32 (by kernel_rfl) rfl _ _)) (CRP.out gt V3 HB3.out HP3.out HS3.out HT3.out) ?_
  rintro e V4 ⟨A8, c8, rfl, ho, hb⟩
  have HB4 := Lib.hid (HB3.out.trans (hb.mono HB3.out.size))
  have HX4 := Lib.hid (heap_step HX3.out hb)
  have HP4 := Lib.hid (RdE.below HP3.out hb (Nat.le_refl _))
  have HS4 := Lib.hid (RdE.below HS3.out hb (Nat.le_refl _))
  have HI4 := Lib.hid (RdE.below HI3.out hb (Nat.le_refl _))
  have HT4 := Lib.hid (RdTT.below HT3.out hb (Nat.le_refl _))
  have HG4 := Lib.hid (heap_step HG3.out hb)
  have HO4 := Lib.hid (own_base ho HB3.out.size)
  clear ho hb
  refine ⟨.tuple #[.agg #[.int .i64 1, .slice A8 3 c8], .int .i64 0], rfl, ?_⟩
  simp only [Act.put, List.setIfInBounds_toArray, List.set_cons_zero, List.set_cons_succ]
  refine wpAny_at (i := 7) (v := .tuple #[.agg #[.int .i64 1, .slice A8 3 c8], .int .i64 0]) (some 38) rfl rfl (by kernel_rfl) (by kernel_rfl) (by kernel_rfl) (fun _ _ _ h => h) (by kernel_rfl) (fun _ => ex_move _ _ rfl (by kernel_rfl)) ?_
  simp only [Act.put, List.setIfInBounds_toArray, List.set_cons_zero, List.set_cons_succ]
  refine wpAny_at (i := 8) (v := .agg #[.int .i64 1, .slice A8 3 c8]) (some 46) rfl rfl (by kernel_rfl) (by kernel_rfl) (by kernel_rfl) (fun _ _ _ h => h) (by kernel_rfl) (fun _ => ex_extract _ 0 #[.agg #[.int .i64 1, .slice A8 3 c8], .int .i64 0] (.agg #[.int .i64 1, .slice A8 3 c8]) rfl (by kernel_rfl) rfl) ?_
  simp only [Act.put, List.setIfInBounds_toArray, List.set_cons_zero, List.set_cons_succ]
  refine wpAny_at (i := 9) (v := .int .i64 0) (some 47) rfl rfl (by kernel_rfl) (by kernel_rfl) (by kernel_rfl) (fun _ _ _ h => h) (by kernel_rfl) (fun _ => ex_extract _ 1 #[.agg #[.int .i64 1, .slice A8 3 c8], .int .i64 0] (.int .i64 0) rfl (by kernel_rfl) rfl) ?_
  simp only [Act.put, List.setIfInBounds_toArray, List.set_cons_zero, List.set_cons_succ]
  refine wpAny_only 11 (by kernel_rfl) rfl (by kernel_rfl) ?_
  refine wp_storeD (.tmp 7) (.tmp 46) rfl rfl g7 1 A8 3 c8 (by kernel_rfl) (by kernel_rfl) HG4.out ?_
  have HBZ := Lib.hid ((HB4.out.setCell (p := ⟨g7, 0, none⟩) hg7 (.int .i64 1)).setCell (p := ⟨g7, 1, none⟩) hg7 (.slice A8 3 c8))
  have HGZ := Lib.hid (storeD_at (u0 := .int .i64 1) (u1 := .slice A8 3 c8) HG4.out)
  have HOZ := Lib.hid (own_same (w' := (V4.setCell ⟨g7, 0, none⟩ (.int .i64 1)).setCell ⟨g7, 1, none⟩ (.slice A8 3 c8)) HO4.out fun j hj => storeD_out (fun e => own_apart HO4.out HG4.out (by decide) j hj e))
  clear HB4 HX4 HP4 HS4 HI4 HT4 HG4 HO4
  generalize (V4.setCell ⟨g7, 0, none⟩ (.int .i64 1)).setCell ⟨g7, 1, none⟩ (.slice A8 3 c8) = V at HBZ HGZ HOZ ⊢
  simp only [Act.put, List.setIfInBounds_toArray, List.set_cons_zero, List.set_cons_succ]
  refine wpAny_at (i := 12) (v := .int .i64 0) (some 8) rfl rfl (by kernel_rfl) (by kernel_rfl) (by kernel_rfl) (fun _ _ _ h => h) (by kernel_rfl) (fun _ => ex_assign _ _ rfl (by kernel_rfl)) ?_
  simp only [Act.put, List.setIfInBounds_toArray, List.set_cons_zero, List.set_cons_succ]
  refine wpAny_done (by kernel_rfl) ?_ _
  rotate_left 1
  refine wp_of_valw (ex_allocD rfl) ?_
  have hal := (Below.refl V2.heap.size V2).alloc (Nat.le_refl _) (.cells #[.int .i64 0, .slice none 0 0] 41)
  have HB3 := Lib.hid (HB2.out.trans (hal.mono HB2.out.size))
  have HX3 := Lib.hid (heap_step HX2.out hal)
  have HP3 := Lib.hid (RdE.below HP2.out hal (Nat.le_refl _))
  have HS3 := Lib.hid (RdE.below HS2.out hal (Nat.le_refl _))
  have HI3 := Lib.hid (RdE.below HI2.out hal (Nat.le_refl _))
  have HT3 := Lib.hid (RdTT.below HT2.out hal (Nat.le_refl _))
  have HG3 : Hid ((V2.alloc (.cells #[.int .i64 0, .slice none 0 0] 41)).heap[V2.heap.size]? = some (.cells #[.int .i64 0, .slice none 0 0] 41)) := heap_alloc_new V2 _
  have hg7 : w.heap.size ≤ V2.heap.size := HB2.out.size
  clear hal
  generalize V2.heap.size = g7 at HG3 hg7 ⊢
  generalize V2.alloc (.cells #[.int .i64 0, .slice none 0 0] 41) = V3 at HG3 HB3 HX3 HP3 HS3 HI3 HT3 ⊢
  simp only [Act.put, List.setIfInBounds_toArray, List.set_cons_zero, List.set_cons_succ]
  refine wpAny_only 0 (by kernel_rfl) rfl (by kernel_rfl) ?_
  refine wp_of_val (v := .agg #[.int .i64 1, .slice A 3 c]) (ex_load 41 _ (.pointer (some ⟨g, 0, none⟩)) _ rfl (by kernel_rfl) (ldT_doc (bx2 HX3.out).1 (bx2 HX3.out).2.1)) ?_
  simp only [Act.put, List.setIfInBounds_toArray, List.set_cons_zero, List.set_cons_succ]
  refine wpAny_only 6 (by kernel_rfl) rfl (by kernel_rfl) ?_
  refine wp_of_call (ex_callK4 _ rfl (by kernel_rfl) (by kernel_rfl) (by kernel_rfl) (by kernel_rfl) (enters_of Tryz.func32 (by kernel_rfl) rfl _ _)) (CRP.out gt V3 HB3.out HP3.out HS3.out HT3.out) ?_
  rintro e V4 ⟨A8, c8, rfl, ho, hb⟩
  have HB4 := Lib.hid (HB3.out.trans (hb.mono HB3.out.size))
  have HX4 := Lib.hid (heap_step HX3.out hb)
  have HP4 := Lib.hid (RdE.below HP3.out hb (Nat.le_refl _))
  have HS4 := Lib.hid (RdE.below HS3.out hb (Nat.le_refl _))
  have HI4 := Lib.hid (RdE.below HI3.out hb (Nat.le_refl _))
  have HT4 := Lib.hid (RdTT.below HT3.out hb (Nat.le_refl _))
  have HG4 := Lib.hid (heap_step HG3.out hb)
  have HO4 := Lib.hid (own_base ho HB3.out.size)
  clear ho hb
  refine ⟨.tuple #[.agg #[.int .i64 1, .slice A8 3 c8], .int .i64 0], rfl, ?_⟩
  simp only [Act.put, List.setIfInBounds_toArray, List.set_cons_zero, List.set_cons_succ]
  refine wpAny_at (i := 7) (v := .tuple #[.agg #[.int .i64 1, .slice A8 3 c8], .int .i64 0]) (some 38) rfl rfl (by kernel_rfl) (by kernel_rfl) (by kernel_rfl) (fun _ _ _ h => h) (by kernel_rfl) (fun _ => ex_move _ _ rfl (by kernel_rfl)) ?_
  simp only [Act.put, List.setIfInBounds_toArray, List.set_cons_zero, List.set_cons_succ]
  refine wpAny_at (i := 8) (v := .agg #[.int .i64 1, .slice A8 3 c8]) (some 46) rfl rfl (by kernel_rfl) (by kernel_rfl) (by kernel_rfl) (fun _ _ _ h => h) (by kernel_rfl) (fun _ => ex_extract _ 0 #[.agg #[.int .i64 1, .slice A8 3 c8], .int .i64 0] (.agg #[.int .i64 1, .slice A8 3 c8]) rfl (by kernel_rfl) rfl) ?_
  simp only [Act.put, List.setIfInBounds_toArray, List.set_cons_zero, List.set_cons_succ]
  refine wpAny_at (i := 9) (v := .int .i64 0) (some 47) rfl rfl (by kernel_rfl) (by kernel_rfl) (by kernel_rfl) (fun _ _ _ h => h) (by kernel_rfl) (fun _ => ex_extract _ 1 #[.agg #[.int .i64 1, .slice A8 3 c8], .int .i64 0] (.int .i64 0) rfl (by kernel_rfl) rfl) ?_
  simp only [Act.put, List.setIfInBounds_toArray, List.set_cons_zero, List.set_cons_succ]
  refine wpAny_only 11 (by kernel_rfl) rfl (by kernel_rfl) ?_
  refine wp_storeD (.tmp 7) (.tmp 46) rfl rfl g7 1 A8 3 c8 (by kernel_rfl) (by kernel_rfl) HG4.out ?_
  have HBZ := Lib.hid ((HB4.out.setCell (p := ⟨g7, 0, none⟩) hg7 (.int .i64 1)).setCell (p := ⟨g7, 1, none⟩) hg7 (.slice A8 3 c8))
  have HGZ := Lib.hid (storeD_at (u0 := .int .i64 1) (u1 := .slice A8 3 c8) HG4.out)
  have HOZ := Lib.hid (own_same (w' := (V4.setCell ⟨g7, 0, none⟩ (.int .i64 1)).setCell ⟨g7, 1, none⟩ (.slice A8 3 c8)) HO4.out fun j hj => storeD_out (fun e => own_apart HO4.out HG4.out (by decide) j hj e))
  clear HB4 HX4 HP4 HS4 HI4 HT4 HG4 HO4
  generalize (V4.setCell ⟨g7, 0, none⟩ (.int .i64 1)).setCell ⟨g7, 1, none⟩ (.slice A8 3 c8) = V at HBZ HGZ HOZ ⊢
  simp only [Act.put, List.setIfInBounds_toArray, List.set_cons_zero, List.set_cons_succ]
  refine wpAny_at (i := 12) (v := .int .i64 0) (some 8) rfl rfl (by kernel_rfl) (by kernel_rfl) (by kernel_rfl) (fun _ _ _ h => h) (by kernel_rfl) (fun _ => ex_assign _ _ rfl (by kernel_rfl)) ?_
  simp only [Act.put, List.setIfInBounds_toArray, List.set_cons_zero, List.set_cons_succ]
  refine wpAny_done (by kernel_rfl) ?_ _
  rotate_left 1
  refine wp_of_valw (ex_allocD rfl) ?_
  have hal := (Below.refl V1.heap.size V1).alloc (Nat.le_refl _) (.cells #[.int .i64 0, .slice none 0 0] 41)
  have HB2 := Lib.hid (HB1.out.trans (hal.mono HB1.out.size))
  have HX2 := Lib.hid (heap_step HX1.out hal)
  have HP2 := Lib.hid (RdE.below HP1.out hal (Nat.le_refl _))
  have HS2 := Lib.hid (RdE.below HS1.out hal (Nat.le_refl _))
  have HI2 := Lib.hid (RdE.below HI1.out hal (Nat.le_refl _))
  have HG2 : Hid ((V1.alloc (.cells #[.int .i64 0, .slice none 0 0] 41)).heap[V1.heap.size]? = some (.cells #[.int .i64 0, .slice none 0 0] 41)) := heap_alloc_new V1 _
  have hg7 : w.heap.size ≤ V1.heap.size := HB1.out.size
  clear hal
  generalize V1.heap.size = g7 at HG2 hg7 ⊢
  generalize V1.alloc (.cells #[.int .i64 0, .slice none 0 0] 41) = V2 at HG2 HB2 HX2 HP2 HS2 HI2 ⊢
  simp only [Act.put, List.setIfInBounds_toArray, List.set_cons_zero, List.set_cons_succ]
  refine wpAny_two 0 5 (by kernel_rfl) rfl rfl (by kernel_rfl) (by kernel_rfl) ?_ ?_
  refine wp_of_val (v := .agg #[.int .i64 1, .slice A 3 c]) (ex_load 41 _ (.pointer (some ⟨g, 0, none⟩)) _ rfl (by kernel_rfl) (ldT_doc (bx2 HX2.out).1 (bx2 HX2.out).2.1)) ?_
  simp only [Act.put, List.setIfInBounds_toArray, List.set_cons_zero, List.set_cons_succ]
  refine wpAny_only 5 (by kernel_rfl) rfl (by kernel_rfl) ?_
  refine wp_of_valw (ex_box24 (.tmp 43) (some ⟨gi, 0, none⟩) 1 1 rfl (by kernel_rfl)) ?_
  have hal := (Below.refl V2.heap.size V2).alloc (Nat.le_refl _) (.cells #[.slice (some ⟨gi, 0, none⟩) 1 1] 24)
  have HB3 := Lib.hid (HB2.out.trans (hal.mono HB2.out.size))
  have HX3 := Lib.hid (heap_step HX2.out hal)
  have HP3 := Lib.hid (RdE.below HP2.out hal (Nat.le_refl _))
  have HS3 := Lib.hid (RdE.below HS2.out hal (Nat.le_refl _))
  have HI3 := Lib.hid (RdE.below HI2.out hal (Nat.le_refl _))
  have HG3 := Lib.hid (heap_step HG2.out hal)
  have HT3 : Hid (RdTT (V2.alloc (.cells #[.slice (some ⟨gi, 0, none⟩) 1 1] 24)) (.slice (some ⟨V2.heap.size, 0, none⟩) 1 1) [knG]) := rdTT_one V2 gi knG rfl HI2.out
  clear hal
  generalize V2.heap.size = gt at HT3 ⊢
  generalize V2.alloc (.cells #[.slice (some ⟨gi, 0, none⟩) 1 1] 24) = V3 at HT3 HB3 HX3 HP3 HS3 HI3 HG3 ⊢
  simp only [Act.put, List.setIfInBounds_toArray, List.set_cons_zero, List.set_cons_succ]
  refine wpAny_only 6 (by kernel_rfl) rfl (by kernel_rfl) ?_
  refine wp_of_call (ex_callK4 _ rfl (by kernel_rfl) (by kernel_rfl) (by kernel_rfl) (by kernel_rfl) (enters_of Tryz.func32 (by kernel_rfl) rfl _ _)) (CRP.out gt V3 HB3.out HP3.out HS3.out HT3.out) ?_
  rintro e V4 ⟨A8, c8, rfl, ho, hb⟩
  have HB4 := Lib.hid (HB3.out.trans (hb.mono HB3.out.size))
  have HX4 := Lib.hid (heap_step HX3.out hb)
  have HP4 := Lib.hid (RdE.below HP3.out hb (Nat.le_refl _))
  have HS4 := Lib.hid (RdE.below HS3.out hb (Nat.le_refl _))
  have HI4 := Lib.hid (RdE.below HI3.out hb (Nat.le_refl _))
  have HT4 := Lib.hid (RdTT.below HT3.out hb (Nat.le_refl _))
  have HG4 := Lib.hid (heap_step HG3.out hb)
  have HO4 := Lib.hid (own_base ho HB3.out.size)
  clear ho hb
  refine ⟨.tuple #[.agg #[.int .i64 1, .slice A8 3 c8], .int .i64 0], rfl, ?_⟩
  simp only [Act.put, List.setIfInBounds_toArray, List.set_cons_zero, List.set_cons_succ]
  refine wpAny_at (i := 7) (v := .tuple #[.agg #[.int .i64 1, .slice A8 3 c8], .int .i64 0]) (some 38) rfl rfl (by kernel_rfl) (by kernel_rfl) (by kernel_rfl) (fun _ _ _ h => h) (by kernel_rfl) (fun _ => ex_move _ _ rfl (by kernel_rfl)) ?_
  simp only [Act.put, List.setIfInBounds_toArray, List.set_cons_zero, List.set_cons_succ]
  refine wpAny_at (i := 8) (v := .agg #[.int .i64 1, .slice A8 3 c8]) (some 46) rfl rfl (by kernel_rfl) (by kernel_rfl) (by kernel_rfl) (fun _ _ _ h => h) (by kernel_rfl) (fun _ => ex_extract _ 0 #[.agg #[.int .i64 1, .slice A8 3 c8], .int .i64 0] (.agg #[.int .i64 1, .slice A8 3 c8]) rfl (by kernel_rfl) rfl) ?_
  simp only [Act.put, List.setIfInBounds_toArray, List.set_cons_zero, List.set_cons_succ]
  refine wpAny_at (i := 9) (v := .int .i64 0) (some 47) rfl rfl (by kernel_rfl) (by kernel_rfl) (by kernel_rfl) (fun _ _ _ h => h) (by kernel_rfl) (fun _ => ex_extract _ 1 #[.agg #[.int .i64 1, .slice A8 3 c8], .int .i64 0] (.int .i64 0) rfl (by kernel_rfl) rfl) ?_
  simp only [Act.put, List.setIfInBounds_toArray, List.set_cons_zero, List.set_cons_succ]
  refine wpAny_only 11 (by kernel_rfl) rfl (by kernel_rfl) ?_
  refine wp_storeD (.tmp 7) (.tmp 46) rfl rfl g7 1 A8 3 c8 (by kernel_rfl) (by kernel_rfl) HG4.out ?_
  have HBZ := Lib.hid ((HB4.out.setCell (p := ⟨g7, 0, none⟩) hg7 (.int .i64 1)).setCell (p := ⟨g7, 1, none⟩) hg7 (.slice A8 3 c8))
  have HGZ := Lib.hid (storeD_at (u0 := .int .i64 1) (u1 := .slice A8 3 c8) HG4.out)
  have HOZ := Lib.hid (own_same (w' := (V4.setCell ⟨g7, 0, none⟩ (.int .i64 1)).setCell ⟨g7, 1, none⟩ (.slice A8 3 c8)) HO4.out fun j hj => storeD_out (fun e => own_apart HO4.out HG4.out (by decide) j hj e))
  clear HB4 HX4 HP4 HS4 HI4 HT4 HG4 HO4
  generalize (V4.setCell ⟨g7, 0, none⟩ (.int .i64 1)).setCell ⟨g7, 1, none⟩ (.slice A8 3 c8) = V at HBZ HGZ HOZ ⊢
  simp only [Act.put, List.setIfInBounds_toArray, List.set_cons_zero, List.set_cons_succ]
  refine wpAny_at (i := 12) (v := .int .i64 0) (some 8) rfl rfl (by kernel_rfl) (by kernel_rfl) (by kernel_rfl) (fun _ _ _ h => h) (by kernel_rfl) (fun _ => ex_assign _ _ rfl (by kernel_rfl)) ?_
  simp only [Act.put, List.setIfInBounds_toArray, List.set_cons_zero, List.set_cons_succ]
  refine wpAny_done (by kernel_rfl) ?_ _
  rotate_left 1
  refine wp_of_valw (ex_box24 (.tmp 43) (some ⟨gi, 0, none⟩) 1 1 rfl (by kernel_rfl)) ?_
  have hal := (Below.refl V2.heap.size V2).alloc (Nat.le_refl _) (.cells #[.slice (some ⟨gi, 0, none⟩) 1 1] 24)
  have HB3 := Lib.hid (HB2.out.trans (hal.mono HB2.out.size))
  have HX3 := Lib.hid (heap_step HX2.out hal)
  have HP3 := Lib.hid (RdE.below HP2.out hal (Nat.le_refl _))
  have HS3 := Lib.hid (RdE.below HS2.out hal (Nat.le_refl _))
  have HI3 := Lib.hid (RdE.below HI2.out hal (Nat.le_refl _))
  have HG3 := Lib.hid (heap_step HG2.out hal)
  have HT3 : Hid (RdTT (V2.alloc (.cells #[.slice (some ⟨gi, 0, none⟩) 1 1] 24)) (.slice (some ⟨V2.heap.size, 0, none⟩) 1 1) [knG]) := rdTT_one V2 gi knG rfl HI2.out
  clear hal
  generalize V2.heap.size = gt at HT3 ⊢
  generalize V2.alloc (.cells #[.slice (some ⟨gi, 0, none⟩) 1 1] 24) = V3 at HT3 HB3 HX3 HP3 HS3 HI3 HG3 ⊢
  simp only [Act.put, List.setIfInBounds_toArray, List.set_cons_zero, List.set_cons_succ]
  refine wpAny_only 0 (by kernel_rfl) rfl (by kernel_rfl) ?_
  refine wp_of_val (v := .agg #[.int .i64 1, .slice A 3 c]) (ex_load 41 _ (.pointer (some ⟨g, 0, none⟩)) _ rfl (by kernel_rfl) (ldT_doc (bx2 HX3.out).1 (bx2 HX3.out).2.1)) ?_
  simp only [Act.put, List.setIfInBounds_toArray, List.set_cons_zero, List.set_cons_succ]
  refine wpAny_only 6 (by kernel_rfl) rfl (by kernel_rfl) ?_
  refine wp_of_call (ex_callK4 _ rfl (by kernel_rfl) (by kernel_rfl) (by kernel_rfl) (by kernel_rfl) (enters_of Tryz.func32 (by kernel_rfl) rfl _ _)) (CRP.out gt V3 HB3.out HP3.out HS3.out HT3.out) ?_
  rintro e V4 ⟨A8, c8, rfl, ho, hb⟩
  have HB4 := Lib.hid (HB3.out.trans (hb.mono HB3.out.size))
  have HX4 := Lib.hid (heap_step HX3.out hb)
  have HP4 := Lib.hid (RdE.below HP3.out hb (Nat.le_refl _))
  have HS4 := Lib.hid (RdE.below HS3.out hb (Nat.le_refl _))
  have HI4 := Lib.hid (RdE.below HI3.out hb (Nat.le_refl _))
  have HT4 := Lib.hid (RdTT.below HT3.out hb (Nat.le_refl _))
  have HG4 := Lib.hid (heap_step HG3.out hb)
  have HO4 := Lib.hid (own_base ho HB3.out.size)
  clear ho hb
  refine ⟨.tuple #[.agg #[.int .i64 1, .slice A8 3 c8], .int .i64 0], rfl, ?_⟩
  simp only [Act.put, List.setIfInBounds_toArray, List.set_cons_zero, List.set_cons_succ]
  refine wpAny_at (i := 7) (v := .tuple #[.agg #[.int .i64 1, .slice A8 3 c8], .int .i64 0]) (some 38) rfl rfl (by kernel_rfl) (by kernel_rfl) (by kernel_rfl) (fun _ _ _ h => h) (by kernel_rfl) (fun _ => ex_move _ _ rfl (by kernel_rfl)) ?_
  simp only [Act.put, List.setIfInBounds_toArray, List.set_cons_zero, List.set_cons_succ]
  refine wpAny_at (i := 8) (v := .agg #[.int .i64 1, .slice A8 3 c8]) (some 46) rfl rfl (by kernel_rfl) (by kernel_rfl) (by kernel_rfl) (fun _ _ _ h => h) (by kernel_rfl) (fun _ => ex_extract _ 0 #[.agg #[.int .i64 1, .slice A8 3 c8], .int .i64 0] (.agg #[.int .i64 1, .slice A8 3 c8]) rfl (by kernel_rfl) rfl) ?_
  simp only [Act.put, List.setIfInBounds_toArray, List.set_cons_zero, List.set_cons_succ]
  refine wpAny_at (i := 9) (v := .int .i64 0) (some 47) rfl rfl (by kernel_rfl) (by kernel_rfl) (by kernel_rfl) (fun _ _ _ h => h) (by kernel_rfl) (fun _ => ex_extract _ 1 #[.agg #[.int .i64 1, .slice A8 3 c8], .int .i64 0] (.int .i64 0) rfl (by kernel_rfl) rfl) ?_
  simp only [Act.put, List.setIfInBounds_toArray, List.set_cons_zero, List.set_cons_succ]
  refine wpAny_only 11 (by kernel_rfl) rfl (by kernel_rfl) ?_
  refine wp_storeD (.tmp 7) (.tmp 46) rfl rfl g7 1 A8 3 c8 (by kernel_rfl) (by kernel_rfl) HG4.out ?_
  have HBZ := Lib.hid ((HB4.out.setCell (p := ⟨g7, 0, none⟩) hg7 (.int .i64 1)).setCell (p := ⟨g7, 1, none⟩) hg7 (.slice A8 3 c8))
  have HGZ := Lib.hid (storeD_at (u0 := .int .i64 1) (u1 := .slice A8 3 c8) HG4.out)
  have HOZ := Lib.hid (own_same (w' := (V4.setCell ⟨g7, 0, none⟩ (.int .i64 1)).setCell ⟨g7, 1, none⟩ (.slice A8 3 c8)) HO4.out fun j hj => storeD_out (fun e => own_apart HO4.out HG4.out (by decide) j hj e))
  clear HB4 HX4 HP4 HS4 HI4 HT4 HG4 HO4
  generalize (V4.setCell ⟨g7, 0, none⟩ (.int .i64 1)).setCell ⟨g7, 1, none⟩ (.slice A8 3 c8) = V at HBZ HGZ HOZ ⊢
  simp only [Act.put, List.setIfInBounds_toArray, List.set_cons_zero, List.set_cons_succ]
  refine wpAny_at (i := 12) (v := .int .i64 0) (some 8) rfl rfl (by kernel_rfl) (by kernel_rfl) (by kernel_rfl) (fun _ _ _ h => h) (by kernel_rfl) (fun _ => ex_assign _ _ rfl (by kernel_rfl)) ?_
  simp only [Act.put, List.setIfInBounds_toArray, List.set_cons_zero, List.set_cons_succ]
  refine wpAny_done (by kernel_rfl) ?_ _
  rotate_left 1
  refine wp_of_valw (ex_allocD rfl) ?_
  have hal := (Below.refl V0.heap.size V0).alloc (Nat.le_refl _) (.cells #[.int .i64 0, .slice none 0 0] 41)
  have HB1 := Lib.hid (HB0.out.trans (hal.mono HB0.out.size))
  have HX1 := Lib.hid (heap_step HX0.out hal)
  have HP1 := Lib.hid (RdE.below HP0.out hal (Nat.le_refl _))
  have HS1 := Lib.hid (RdE.below HS0.out hal (Nat.le_refl _))
  have HG1 : Hid ((V0.alloc (.cells #[.int .i64 0, .slice none 0 0] 41)).heap[V0.heap.size]? = some (.cells #[.int .i64 0, .slice none 0 0] 41)) := heap_alloc_new V0 _
  have hg7 : w.heap.size ≤ V0.heap.size := HB0.out.size
  clear hal
  generalize V0.heap.size = g7 at HG1 hg7 ⊢
  generalize V0.alloc (.cells #[.int .i64 0, .slice none 0 0] 41) = V1 at HG1 HB1 HX1 HP1 HS1 ⊢
  simp only [Act.put, List.setIfInBounds_toArray, List.set_cons_zero, List.set_cons_succ]
  refine wpAny_two 0 4 (by kernel_rfl) rfl rfl (by kernel_rfl) (by kernel_rfl) ?_ ?_
  refine wp_of_val (v := .agg #[.int .i64 1, .slice A 3 c]) (ex_load 41 _ (.pointer (some ⟨g, 0, none⟩)) _ rfl (by kernel_rfl) (ldT_doc (bx2 HX1.out).1 (bx2 HX1.out).2.1)) ?_
  simp only [Act.put, List.setIfInBounds_toArray, List.set_cons_zero, List.set_cons_succ]
  refine wpAny_only 4 (by kernel_rfl) rfl (by kernel_rfl) ?_
  refine wp_of_valw (ex_box31 (.tmp 42) (⟨#[83, 105, 99, 104, 101, 114, 110, 46]⟩ : ByteArray) rfl (by kernel_rfl)) ?_
  have hal := (Below.refl V1.heap.size V1).alloc (Nat.le_refl _) (.cells #[.int .i64 1, .string (⟨#[83, 105, 99, 104, 101, 114, 110, 46]⟩ : ByteArray), .int .i64 0] 31)
  have HB2 := Lib.hid (HB1.out.trans (hal.mono HB1.out.size))
  have HX2 := Lib.hid (heap_step HX1.out hal)
  have HP2 := Lib.hid (RdE.below HP1.out hal (Nat.le_refl _))
  have HS2 := Lib.hid (RdE.below HS1.out hal (Nat.le_refl _))
  have HG2 := Lib.hid (heap_step HG1.out hal)
  have HI2 : Hid (RdT (V1.alloc (.cells #[.int .i64 1, .string (⟨#[83, 105, 99, 104, 101, 114, 110, 46]⟩ : ByteArray), .int .i64 0] 31)) (.slice (some ⟨V1.heap.size, 0, none⟩) 1 1) knG) := rdE_oneR tkC 3 tkC_three V1 _ rfl ⟨1, (⟨#[83, 105, 99, 104, 101, 114, 110, 46]⟩ : ByteArray), 0⟩ _
  clear hal
  generalize V1.heap.size = gi at HI2 ⊢
  generalize V1.alloc (.cells #[.int .i64 1, .string (⟨#[83, 105, 99, 104, 101, 114, 110, 46]⟩ : ByteArray), .int .i64 0] 31) = V2 at HI2 HB2 HX2 HP2 HS2 HG2 ⊢
  simp only [Act.put, List.setIfInBounds_toArray, List.set_cons_zero, List.set_cons_succ]
  refine wpAny_only 5 (by kernel_rfl) rfl (by kernel_rfl) ?_
  refine wp_of_valw (ex_box24 (.tmp 43) (some ⟨gi, 0, none⟩) 1 1 rfl (by kernel_rfl)) ?_
  have hal := (Below.refl V2.heap.size V2).alloc (Nat.le_refl _) (.cells #[.slice (some ⟨gi, 0, none⟩) 1 1] 24)
  have HB3 := Lib.hid (HB2.out.trans (hal.mono HB2.out.size))
  have HX3 := Lib.hid (heap_step HX2.out hal)
  have HP3 := Lib.hid (RdE.below HP2.out hal (Nat.le_refl _))
  have HS3 := Lib.hid (RdE.below HS2.out hal (Nat.le_refl _))
  have HI3 := Lib.hid (RdE.below HI2.out hal (Nat.le_refl _))
  have HG3 := Lib.hid (heap_step HG2.out hal)
  have HT3 : Hid (RdTT (V2.alloc (.cells #[.slice (some ⟨gi, 0, none⟩) 1 1] 24)) (.slice (some ⟨V2.heap.size, 0, none⟩) 1 1) [knG]) := rdTT_one V2 gi knG rfl HI2.out
  clear hal
  generalize V2.heap.size = gt at HT3 ⊢
  generalize V2.alloc (.cells #[.slice (some ⟨gi, 0, none⟩) 1 1] 24) = V3 at HT3 HB3 HX3 HP3 HS3 HI3 HG3 ⊢
  simp only [Act.put, List.setIfInBounds_toArray, List.set_cons_zero, List.set_cons_succ]
  refine wpAny_only 6 (by kernel_rfl) rfl (by kernel_rfl) ?_
  refine wp_of_call (ex_callK4 _ rfl (by kernel_rfl) (by kernel_rfl) (by kernel_rfl) (by kernel_rfl) (enters_of Tryz.func32 (by kernel_rfl) rfl _ _)) (CRP.out gt V3 HB3.out HP3.out HS3.out HT3.out) ?_
  rintro e V4 ⟨A8, c8, rfl, ho, hb⟩
  have HB4 := Lib.hid (HB3.out.trans (hb.mono HB3.out.size))
  have HX4 := Lib.hid (heap_step HX3.out hb)
  have HP4 := Lib.hid (RdE.below HP3.out hb (Nat.le_refl _))
  have HS4 := Lib.hid (RdE.below HS3.out hb (Nat.le_refl _))
  have HI4 := Lib.hid (RdE.below HI3.out hb (Nat.le_refl _))
  have HT4 := Lib.hid (RdTT.below HT3.out hb (Nat.le_refl _))
  have HG4 := Lib.hid (heap_step HG3.out hb)
  have HO4 := Lib.hid (own_base ho HB3.out.size)
  clear ho hb
  refine ⟨.tuple #[.agg #[.int .i64 1, .slice A8 3 c8], .int .i64 0], rfl, ?_⟩
  simp only [Act.put, List.setIfInBounds_toArray, List.set_cons_zero, List.set_cons_succ]
  refine wpAny_at (i := 7) (v := .tuple #[.agg #[.int .i64 1, .slice A8 3 c8], .int .i64 0]) (some 38) rfl rfl (by kernel_rfl) (by kernel_rfl) (by kernel_rfl) (fun _ _ _ h => h) (by kernel_rfl) (fun _ => ex_move _ _ rfl (by kernel_rfl)) ?_
  simp only [Act.put, List.setIfInBounds_toArray, List.set_cons_zero, List.set_cons_succ]
  refine wpAny_at (i := 8) (v := .agg #[.int .i64 1, .slice A8 3 c8]) (some 46) rfl rfl (by kernel_rfl) (by kernel_rfl) (by kernel_rfl) (fun _ _ _ h => h) (by kernel_rfl) (fun _ => ex_extract _ 0 #[.agg #[.int .i64 1, .slice A8 3 c8], .int .i64 0] (.agg #[.int .i64 1, .slice A8 3 c8]) rfl (by kernel_rfl) rfl) ?_
  simp only [Act.put, List.setIfInBounds_toArray, List.set_cons_zero, List.set_cons_succ]
  refine wpAny_at (i := 9) (v := .int .i64 0) (some 47) rfl rfl (by kernel_rfl) (by kernel_rfl) (by kernel_rfl) (fun _ _ _ h => h) (by kernel_rfl) (fun _ => ex_extract _ 1 #[.agg #[.int .i64 1, .slice A8 3 c8], .int .i64 0] (.int .i64 0) rfl (by kernel_rfl) rfl) ?_
  simp only [Act.put, List.setIfInBounds_toArray, List.set_cons_zero, List.set_cons_succ]
  refine wpAny_only 11 (by kernel_rfl) rfl (by kernel_rfl) ?_
  refine wp_storeD (.tmp 7) (.tmp 46) rfl rfl g7 1 A8 3 c8 (by kernel_rfl) (by kernel_rfl) HG4.out ?_
  have HBZ := Lib.hid ((HB4.out.setCell (p := ⟨g7, 0, none⟩) hg7 (.int .i64 1)).setCell (p := ⟨g7, 1, none⟩) hg7 (.slice A8 3 c8))
  have HGZ := Lib.hid (storeD_at (u0 := .int .i64 1) (u1 := .slice A8 3 c8) HG4.out)
  have HOZ := Lib.hid (own_same (w' := (V4.setCell ⟨g7, 0, none⟩ (.int .i64 1)).setCell ⟨g7, 1, none⟩ (.slice A8 3 c8)) HO4.out fun j hj => storeD_out (fun e => own_apart HO4.out HG4.out (by decide) j hj e))
  clear HB4 HX4 HP4 HS4 HI4 HT4 HG4 HO4
  generalize (V4.setCell ⟨g7, 0, none⟩ (.int .i64 1)).setCell ⟨g7, 1, none⟩ (.slice A8 3 c8) = V at HBZ HGZ HOZ ⊢
  simp only [Act.put, List.setIfInBounds_toArray, List.set_cons_zero, List.set_cons_succ]
  refine wpAny_at (i := 12) (v := .int .i64 0) (some 8) rfl rfl (by kernel_rfl) (by kernel_rfl) (by kernel_rfl) (fun _ _ _ h => h) (by kernel_rfl) (fun _ => ex_assign _ _ rfl (by kernel_rfl)) ?_
  simp only [Act.put, List.setIfInBounds_toArray, List.set_cons_zero, List.set_cons_succ]
  refine wpAny_done (by kernel_rfl) ?_ _
  rotate_left 1
  refine wp_of_valw (ex_box31 (.tmp 42) (⟨#[83, 105, 99, 104, 101, 114, 110, 46]⟩ : ByteArray) rfl (by kernel_rfl)) ?_
  have hal := (Below.refl V1.heap.size V1).alloc (Nat.le_refl _) (.cells #[.int .i64 1, .string (⟨#[83, 105, 99, 104, 101, 114, 110, 46]⟩ : ByteArray), .int .i64 0] 31)
  have HB2 := Lib.hid (HB1.out.trans (hal.mono HB1.out.size))
  have HX2 := Lib.hid (heap_step HX1.out hal)
  have HP2 := Lib.hid (RdE.below HP1.out hal (Nat.le_refl _))
  have HS2 := Lib.hid (RdE.below HS1.out hal (Nat.le_refl _))
  have HG2 := Lib.hid (heap_step HG1.out hal)
  have HI2 : Hid (RdT (V1.alloc (.cells #[.int .i64 1, .string (⟨#[83, 105, 99, 104, 101, 114, 110, 46]⟩ : ByteArray), .int .i64 0] 31)) (.slice (some ⟨V1.heap.size, 0, none⟩) 1 1) knG) := rdE_oneR tkC 3 tkC_three V1 _ rfl ⟨1, (⟨#[83, 105, 99, 104, 101, 114, 110, 46]⟩ : ByteArray), 0⟩ _
  clear hal
  generalize V1.heap.size = gi at HI2 ⊢
  generalize V1.alloc (.cells #[.int .i64 1, .string (⟨#[83, 105, 99, 104, 101, 114, 110, 46]⟩ : ByteArray), .int .i64 0] 31) = V2 at HI2 HB2 HX2 HP2 HS2 HG2 ⊢
  simp only [Act.put, List.setIfInBounds_toArray, List.set_cons_zero, List.set_cons_succ]
  refine wpAny_two 0 5 (by kernel_rfl) rfl rfl (by kernel_rfl) (by kernel_rfl) ?_ ?_
  refine wp_of_val (v := .agg #[.int .i64 1, .slice A 3 c]) (ex_load 41 _ (.pointer (some ⟨g, 0, none⟩)) _ rfl (by kernel_rfl) (ldT_doc (bx2 HX2.out).1 (bx2 HX2.out).2.1)) ?_
  simp only [Act.put, List.setIfInBounds_toArray, List.set_cons_zero, List.set_cons_succ]
  refine wpAny_only 5 (by kernel_rfl) rfl (by kernel_rfl) ?_
  refine wp_of_valw (ex_box24 (.tmp 43) (some ⟨gi, 0, none⟩) 1 1 rfl (by kernel_rfl)) ?_
  have hal := (Below.refl V2.heap.size V2).alloc (Nat.le_refl _) (.cells #[.slice (some ⟨gi, 0, none⟩) 1 1] 24)
  have HB3 := Lib.hid (HB2.out.trans (hal.mono HB2.out.size))
  have HX3 := Lib.hid (heap_step HX2.out hal)
  have HP3 := Lib.hid (RdE.below HP2.out hal (Nat.le_refl _))
  have HS3 := Lib.hid (RdE.below HS2.out hal (Nat.le_refl _))
  have HI3 := Lib.hid (RdE.below HI2.out hal (Nat.le_refl _))
  have HG3 := Lib.hid (heap_step HG2.out hal)
  have HT3 : Hid (RdTT (V2.alloc (.cells #[.slice (some ⟨gi, 0, none⟩) 1 1] 24)) (.slice (some ⟨V2.heap.size, 0, none⟩) 1 1) [knG]) := rdTT_one V2 gi knG rfl HI2.out
  clear hal
  generalize V2.heap.size = gt at HT3 ⊢
  generalize V2.alloc (.cells #[.slice (some ⟨gi, 0, none⟩) 1 1] 24) = V3 at HT3 HB3 HX3 HP3 HS3 HI3 HG3 ⊢
  simp only [Act.put, List.setIfInBounds_toArray, List.set_cons_zero, List.set_cons_succ]
  refine wpAny_only 6 (by kernel_rfl) rfl (by kernel_rfl) ?_
  refine wp_of_call (ex_callK4 _ rfl (by kernel_rfl) (by kernel_rfl) (by kernel_rfl) (by kernel_rfl) (enters_of Tryz.func32 (by kernel_rfl) rfl _ _)) (CRP.out gt V3 HB3.out HP3.out HS3.out HT3.out) ?_
  rintro e V4 ⟨A8, c8, rfl, ho, hb⟩
  have HB4 := Lib.hid (HB3.out.trans (hb.mono HB3.out.size))
  have HX4 := Lib.hid (heap_step HX3.out hb)
  have HP4 := Lib.hid (RdE.below HP3.out hb (Nat.le_refl _))
  have HS4 := Lib.hid (RdE.below HS3.out hb (Nat.le_refl _))
  have HI4 := Lib.hid (RdE.below HI3.out hb (Nat.le_refl _))
  have HT4 := Lib.hid (RdTT.below HT3.out hb (Nat.le_refl _))
  have HG4 := Lib.hid (heap_step HG3.out hb)
  have HO4 := Lib.hid (own_base ho HB3.out.size)
  clear ho hb
  refine ⟨.tuple #[.agg #[.int .i64 1, .slice A8 3 c8], .int .i64 0], rfl, ?_⟩
  simp only [Act.put, List.setIfInBounds_toArray, List.set_cons_zero, List.set_cons_succ]
  refine wpAny_at (i := 7) (v := .tuple #[.agg #[.int .i64 1, .slice A8 3 c8], .int .i64 0]) (some 38) rfl rfl (by kernel_rfl) (by kernel_rfl) (by kernel_rfl) (fun _ _ _ h => h) (by kernel_rfl) (fun _ => ex_move _ _ rfl (by kernel_rfl)) ?_
  simp only [Act.put, List.setIfInBounds_toArray, List.set_cons_zero, List.set_cons_succ]
  refine wpAny_at (i := 8) (v := .agg #[.int .i64 1, .slice A8 3 c8]) (some 46) rfl rfl (by kernel_rfl) (by kernel_rfl) (by kernel_rfl) (fun _ _ _ h => h) (by kernel_rfl) (fun _ => ex_extract _ 0 #[.agg #[.int .i64 1, .slice A8 3 c8], .int .i64 0] (.agg #[.int .i64 1, .slice A8 3 c8]) rfl (by kernel_rfl) rfl) ?_
  simp only [Act.put, List.setIfInBounds_toArray, List.set_cons_zero, List.set_cons_succ]
  refine wpAny_at (i := 9) (v := .int .i64 0) (some 47) rfl rfl (by kernel_rfl) (by kernel_rfl) (by kernel_rfl) (fun _ _ _ h => h) (by kernel_rfl) (fun _ => ex_extract _ 1 #[.agg #[.int .i64 1, .slice A8 3 c8], .int .i64 0] (.int .i64 0) rfl (by kernel_rfl) rfl) ?_
  simp only [Act.put, List.setIfInBounds_toArray, List.set_cons_zero, List.set_cons_succ]
  refine wpAny_only 11 (by kernel_rfl) rfl (by kernel_rfl) ?_
  refine wp_storeD (.tmp 7) (.tmp 46) rfl rfl g7 1 A8 3 c8 (by kernel_rfl) (by kernel_rfl) HG4.out ?_
  have HBZ := Lib.hid ((HB4.out.setCell (p := ⟨g7, 0, none⟩) hg7 (.int .i64 1)).setCell (p := ⟨g7, 1, none⟩) hg7 (.slice A8 3 c8))
  have HGZ := Lib.hid (storeD_at (u0 := .int .i64 1) (u1 := .slice A8 3 c8) HG4.out)
  have HOZ := Lib.hid (own_same (w' := (V4.setCell ⟨g7, 0, none⟩ (.int .i64 1)).setCell ⟨g7, 1, none⟩ (.slice A8 3 c8)) HO4.out fun j hj => storeD_out (fun e => own_apart HO4.out HG4.out (by decide) j hj e))
  clear HB4 HX4 HP4 HS4 HI4 HT4 HG4 HO4
  generalize (V4.setCell ⟨g7, 0, none⟩ (.int .i64 1)).setCell ⟨g7, 1, none⟩ (.slice A8 3 c8) = V at HBZ HGZ HOZ ⊢
  simp only [Act.put, List.setIfInBounds_toArray, List.set_cons_zero, List.set_cons_succ]
  refine wpAny_at (i := 12) (v := .int .i64 0) (some 8) rfl rfl (by kernel_rfl) (by kernel_rfl) (by kernel_rfl) (fun _ _ _ h => h) (by kernel_rfl) (fun _ => ex_assign _ _ rfl (by kernel_rfl)) ?_
  simp only [Act.put, List.setIfInBounds_toArray, List.set_cons_zero, List.set_cons_succ]
  refine wpAny_done (by kernel_rfl) ?_ _
  rotate_left 1
  refine wp_of_valw (ex_box24 (.tmp 43) (some ⟨gi, 0, none⟩) 1 1 rfl (by kernel_rfl)) ?_
  have hal := (Below.refl V2.heap.size V2).alloc (Nat.le_refl _) (.cells #[.slice (some ⟨gi, 0, none⟩) 1 1] 24)
  have HB3 := Lib.hid (HB2.out.trans (hal.mono HB2.out.size))
  have HX3 := Lib.hid (heap_step HX2.out hal)
  have HP3 := Lib.hid (RdE.below HP2.out hal (Nat.le_refl _))
  have HS3 := Lib.hid (RdE.below HS2.out hal (Nat.le_refl _))
  have HI3 := Lib.hid (RdE.below HI2.out hal (Nat.le_refl _))
  have HG3 := Lib.hid (heap_step HG2.out hal)
  have HT3 : Hid (RdTT (V2.alloc (.cells #[.slice (some ⟨gi, 0, none⟩) 1 1] 24)) (.slice (some ⟨V2.heap.size, 0, none⟩) 1 1) [knG]) := rdTT_one V2 gi knG rfl HI2.out
  clear hal
  generalize V2.heap.size = gt at HT3 ⊢
  generalize V2.alloc (.cells #[.slice (some ⟨gi, 0, none⟩) 1 1] 24) = V3 at HT3 HB3 HX3 HP3 HS3 HI3 HG3 ⊢
  simp only [Act.put, List.setIfInBounds_toArray, List.set_cons_zero, List.set_cons_succ]
  refine wpAny_only 0 (by kernel_rfl) rfl (by kernel_rfl) ?_
  refine wp_of_val (v := .agg #[.int .i64 1, .slice A 3 c]) (ex_load 41 _ (.pointer (some ⟨g, 0, none⟩)) _ rfl (by kernel_rfl) (ldT_doc (bx2 HX3.out).1 (bx2 HX3.out).2.1)) ?_
  simp only [Act.put, List.setIfInBounds_toArray, List.set_cons_zero, List.set_cons_succ]
  refine wpAny_only 6 (by kernel_rfl) rfl (by kernel_rfl) ?_
  refine wp_of_call (ex_callK4 _ rfl (by kernel_rfl) (by kernel_rfl) (by kernel_rfl) (by kernel_rfl) (enters_of Tryz.func32 (by kernel_rfl) rfl _ _)) (CRP.out gt V3 HB3.out HP3.out HS3.out HT3.out) ?_
  rintro e V4 ⟨A8, c8, rfl, ho, hb⟩
  have HB4 := Lib.hid (HB3.out.trans (hb.mono HB3.out.size))
  have HX4 := Lib.hid (heap_step HX3.out hb)
  have HP4 := Lib.hid (RdE.below HP3.out hb (Nat.le_refl _))
  have HS4 := Lib.hid (RdE.below HS3.out hb (Nat.le_refl _))
  have HI4 := Lib.hid (RdE.below HI3.out hb (Nat.le_refl _))
  have HT4 := Lib.hid (RdTT.below HT3.out hb (Nat.le_refl _))
  have HG4 := Lib.hid (heap_step HG3.out hb)
  have HO4 := Lib.hid (own_base ho HB3.out.size)
  clear ho hb
  refine ⟨.tuple #[.agg #[.int .i64 1, .slice A8 3 c8], .int .i64 0], rfl, ?_⟩
  simp only [Act.put, List.setIfInBounds_toArray, List.set_cons_zero, List.set_cons_succ]
  refine wpAny_at (i := 7) (v := .tuple #[.agg #[.int .i64 1, .slice A8 3 c8], .int .i64 0]) (some 38) rfl rfl (by kernel_rfl) (by kernel_rfl) (by kernel_rfl) (fun _ _ _ h => h) (by kernel_rfl) (fun _ => ex_move _ _ rfl (by kernel_rfl)) ?_
  simp only [Act.put, List.setIfInBounds_toArray, List.set_cons_zero, List.set_cons_succ]
  refine wpAny_at (i := 8) (v := .agg #[.int .i64 1, .slice A8 3 c8]) (some 46) rfl rfl (by kernel_rfl) (by kernel_rfl) (by kernel_rfl) (fun _ _ _ h => h) (by kernel_rfl) (fun _ => ex_extract _ 0 #[.agg #[.int .i64 1, .slice A8 3 c8], .int .i64 0] (.agg #[.int .i64 1, .slice A8 3 c8]) rfl (by kernel_rfl) rfl) ?_
  simp only [Act.put, List.setIfInBounds_toArray, List.set_cons_zero, List.set_cons_succ]
  refine wpAny_at (i := 9) (v := .int .i64 0) (some 47) rfl rfl (by kernel_rfl) (by kernel_rfl) (by kernel_rfl) (fun _ _ _ h => h) (by kernel_rfl) (fun _ => ex_extract _ 1 #[.agg #[.int .i64 1, .slice A8 3 c8], .int .i64 0] (.int .i64 0) rfl (by kernel_rfl) rfl) ?_
  simp only [Act.put, List.setIfInBounds_toArray, List.set_cons_zero, List.set_cons_succ]
  refine wpAny_only 11 (by kernel_rfl) rfl (by kernel_rfl) ?_
  refine wp_storeD (.tmp 7) (.tmp 46) rfl rfl g7 1 A8 3 c8 (by kernel_rfl) (by kernel_rfl) HG4.out ?_
  have HBZ := Lib.hid ((HB4.out.setCell (p := ⟨g7, 0, none⟩) hg7 (.int .i64 1)).setCell (p := ⟨g7, 1, none⟩) hg7 (.slice A8 3 c8))
  have HGZ := Lib.hid (storeD_at (u0 := .int .i64 1) (u1 := .slice A8 3 c8) HG4.out)
  have HOZ := Lib.hid (own_same (w' := (V4.setCell ⟨g7, 0, none⟩ (.int .i64 1)).setCell ⟨g7, 1, none⟩ (.slice A8 3 c8)) HO4.out fun j hj => storeD_out (fun e => own_apart HO4.out HG4.out (by decide) j hj e))
  clear HB4 HX4 HP4 HS4 HI4 HT4 HG4 HO4
  generalize (V4.setCell ⟨g7, 0, none⟩ (.int .i64 1)).setCell ⟨g7, 1, none⟩ (.slice A8 3 c8) = V at HBZ HGZ HOZ ⊢
  simp only [Act.put, List.setIfInBounds_toArray, List.set_cons_zero, List.set_cons_succ]
  refine wpAny_at (i := 12) (v := .int .i64 0) (some 8) rfl rfl (by kernel_rfl) (by kernel_rfl) (by kernel_rfl) (fun _ _ _ h => h) (by kernel_rfl) (fun _ => ex_assign _ _ rfl (by kernel_rfl)) ?_
  simp only [Act.put, List.setIfInBounds_toArray, List.set_cons_zero, List.set_cons_succ]
  refine wpAny_done (by kernel_rfl) ?_ _
  all_goals (
    obtain ⟨z0, z1, _⟩ := bx2 HGZ.out
    have HRZ := Lib.hid (OwnE.rd ptC_three HOZ.out)
    go_wp2_with (go_at_call 24; refine (CB.out _ _ _ (by exact HRZ.out)).mono ?_; rintro e V9 ⟨rfl, hb9⟩; have HB9 := Lib.hid (HBZ.out.trans (hb9.mono HBZ.out.size)); clear hb9)
    go_ret
    exact ⟨rfl, HB9.out⟩)

end Go.Proofs.YtfkojnofbpdjdaaGreatDoor

namespace Go.Proofs.YtfkojnofbpdjdaaGreatDoor
set_option maxRecDepth 100000

/-- The item of a round: the text t and the number c have been drawn, at place M; tags: are tags asked for. -/
def itemG (tags : Bool) (L : List Int) (c : Int) (t : ByteArray) (op : List Tk) (id M : Nat) : Tk × List Tk × Nat × Nat :=
  if c = 0 ∨ c = 1 then (⟨5, slotW.getD (nextN L M 3).toNat ⟨#[]⟩, 0⟩, op, id, M + 1)
  else if c = 2 ∧ tags = true then (⟨4, emptyW.getD (nextN L M 2).toNat ⟨#[]⟩, (id + 1 : Nat)⟩, op, id + 1, M + 1)
  else if (c = 3 ∨ c = 4) ∧ tags = true then (⟨2, openW.getD (nextN L M 3).toNat ⟨#[]⟩, (id + 1 : Nat)⟩, op ++ [⟨2, openW.getD (nextN L M 3).toNat ⟨#[]⟩, (id + 1 : Nat)⟩], id + 1, M + 1)
  else if (c = 5 ∨ c = 6) ∧ 0 < op.length then (⟨3, nameB (op.getLastD ⟨0, ⟨#[]⟩, 0⟩).t, (op.getLastD ⟨0, ⟨#[]⟩, 0⟩).d⟩, op.dropLast, id, M)
  else (⟨1, t, 0⟩, op, id, M)
def fragGStep (tags : Bool) (L : List Int) (s : FS) : FS :=
  let ln := lineL L s.N 3
  let x := itemG tags L (nextN L ln.2 8) ln.1 s.op s.id (ln.2 + 1)
  ⟨normL (s.f ++ [x.1]), x.2.1, x.2.2.1, x.2.2.2⟩
def fragGGo (tags : Bool) (L : List Int) : Nat → FS → FS
  | 0, s => s
  | i + 1, s => fragGGo tags L i (fragGStep tags L s)
/-- The closing tags at the end, the last open one first. -/
def closeG (op : List Tk) : List Tk := op.reverse.map fun y => ⟨3, nameB y.t, y.d⟩
def fragG (tags : Bool) (L : List Int) (N : Nat) (n : Int) : List Tk × Nat :=
  let s := fragGGo tags L (nextN L N (n + 1)).toNat ⟨[], [], 0, N + 1⟩
  (s.f ++ closeG s.op, s.N)
/-- What the rounds keep to. -/
structure FGK (tags : Bool) (s : FS) (r : Nat) : Prop where
  len : s.f.length ≤ r
  bytes : bytesOf s.f ≤ 18 * r
  oplen : s.op.length ≤ r
  opsz : ∀ x ∈ s.op, x.t.size ≤ 5
  id : s.id ≤ r
  normal : Normal s.f
  plain : tags = false → (∀ x ∈ s.f, PlainOk x) ∧ s.op = []
theorem slotW_ok (k : Nat) (h : k < 3) : nameL (slotW.getD k ⟨#[]⟩).data.toList = true := by
  rcases (show k = 0 ∨ k = 1 ∨ k = 2 by omega) with rfl | rfl | rfl <;> decide
theorem itemG_ok (tags : Bool) (L : List Int) (c : Int) (t : ByteArray) (op : List Tk) (id M r : Nat) (ht : t.size ≤ 18) (h1 : op.length ≤ r) (h2 : ∀ x ∈ op, x.t.size ≤ 5) (h3 : id ≤ r) (hp : tags = false → op = []) :
    ∀ x op' id' M', itemG tags L c t op id M = (x, op', id', M') → x.t.size ≤ 18 ∧ op'.length ≤ r + 1 ∧ (∀ x ∈ op', x.t.size ≤ 5) ∧ id' ≤ r + 1 ∧ M' ≤ M + 1 ∧ (tags = false → PlainOk x ∧ op' = []) := by
  intro x op' id' M' h
  unfold itemG at h
  have hs := getD_size slotW (nextN L M 3).toNat (by decide)
  have he := getD_size emptyW (nextN L M 2).toNat (by decide)
  have ho := getD_size openW (nextN L M 3).toNat (by decide)
  have hb := nextN_bd L M 3 (by decide)
  split at h
  · cases h; exact ⟨Nat.le_trans hs (by decide), by omega, h2, by omega, by omega, fun hf => ⟨Or.inr ⟨rfl, slotW_ok _ (by omega), rfl⟩, hp hf⟩⟩
  split at h
  · rename_i hc
    cases h; exact ⟨Nat.le_trans he (by decide), by omega, h2, by omega, by omega, fun hf => by rw [hf] at hc; cases hc.2⟩
  split at h
  · rename_i hc
    cases h
    refine ⟨Nat.le_trans ho (by decide), by simp; omega, fun y hy => ?_, by omega, by omega, fun hf => by rw [hf] at hc; cases hc.2⟩
    rcases List.mem_append.1 hy with hy | hy
    · exact h2 y hy
    · rw [List.mem_singleton.1 hy]; exact ho
  split at h
  · rename_i hc
    cases h
    refine ⟨?_, by rw [List.length_dropLast]; omega, fun y hy => h2 y (List.dropLast_subset _ hy), by omega, by omega, fun hf => by have := hp hf; rw [this] at hc; simp at hc⟩
    refine Nat.le_trans (nameB_size _) ?_
    cases hl : op.getLast? with
    | none => rw [List.getLastD_eq_getLast?, hl]; decide
    | some y =>
      rw [List.getLastD_eq_getLast?, hl, Option.getD_some]
      exact Nat.le_trans (h2 y (List.mem_of_getLast? hl)) (by decide)
  · cases h; exact ⟨ht, by omega, h2, by omega, by omega, fun hf => ⟨Or.inl rfl, hp hf⟩⟩
theorem FGK.step (tags : Bool) (L : List Int) (s : FS) (r : Nat) (h : FGK tags s r) : FGK tags (fragGStep tags L s) (r + 1) ∧ (fragGStep tags L s).N ≤ s.N + 9 := by
  obtain ⟨f, op, id, N⟩ := s
  obtain ⟨h1, h2, h3, h4, h5, h8, h9⟩ := h
  simp only at h1 h2 h3 h4 h5 h8 h9
  have hl := lineL_bd L N 3 (by decide)
  unfold fragGStep
  simp only
  generalize hln : lineL L N 3 = ln at hl
  obtain ⟨t, M⟩ := ln
  simp only at hl ⊢
  generalize hx : itemG tags L (nextN L M 8) t op id (M + 1) = x
  obtain ⟨x, op', id', M'⟩ := x
  have ht : t.size ≤ 18 := hl.1
  have hM : M ≤ N + 7 := hl.2
  obtain ⟨q1, q3, q4, q5, q6, q7⟩ := itemG_ok tags L _ t op id (M + 1) r ht h3 h4 h5 (fun hf => (h9 hf).2) x op' id' M' hx
  refine ⟨⟨?_, ?_, q3, q4, q5, normL_normal _, fun hf => ⟨?_, (q7 hf).2⟩⟩, ?_⟩
  · have := normL_length (f ++ [x])
    rw [List.length_append, List.length_singleton] at this
    show (normL (f ++ [x])).length ≤ r + 1
    omega
  · show bytesOf (normL (f ++ [x])) ≤ 18 * (r + 1)
    rw [normL_bytes, bytesOf_append, bytesOf_one]
    omega
  · refine plain_norm _ fun y hy => ?_
    rcases List.mem_append.1 hy with hy | hy
    · exact (h9 hf).1 y hy
    · rw [List.mem_singleton.1 hy]; exact (q7 hf).1
  · show M' ≤ N + 9
    omega
theorem fragGGo_ok (tags : Bool) (L : List Int) : ∀ i s r, FGK tags s r → FGK tags (fragGGo tags L i s) (r + i) ∧ (fragGGo tags L i s).N ≤ s.N + 9 * i
  | 0, _, _, h => ⟨h, Nat.le_refl _⟩
  | i + 1, s, r, h => by
    obtain ⟨g1, g2⟩ := FGK.step tags L s r h
    obtain ⟨g3, g4⟩ := fragGGo_ok tags L i _ (r + 1) g1
    refine ⟨?_, ?_⟩
    · rw [show r + 1 + i = r + (i + 1) by omega] at g3
      exact g3
    · show (fragGGo tags L i (fragGStep tags L s)).N ≤ _
      omega
theorem fgk_start (tags : Bool) (N : Nat) : FGK tags ⟨[], [], 0, N⟩ 0 :=
  ⟨by simp, by simp [bytesOf], by simp, by simp, by simp, trivial, fun _ => ⟨fun x hx => by simp at hx, rfl⟩⟩
theorem wdI_bytes : ∀ f : List Tk, lenI f ≤ bytesOf f + f.length
  | [] => Nat.le_refl _
  | x :: f => by
    have h2 := wdI_bytes f
    have e : bytesOf (x :: f) = x.t.size + bytesOf f := by
      have := bytesOf_append [x] f
      rw [bytesOf_one] at this
      exact this
    rw [lenI, List.length_cons, e]
    have h3 : wdI x ≤ x.t.size + 1 := by
      unfold wdI
      split <;> omega
    omega
/-- A made fragment without tags. -/
theorem fragG_plain (L : List Int) (N n : Nat) (hn : n ≤ 8) : Normal (fragG false L N n).1 ∧ (∀ x ∈ (fragG false L N n).1, PlainOk x) ∧ (fragG false L N n).1.length ≤ 8 ∧ lenI (fragG false L N n).1 ≤ 152 := by
  have hb := nextN_bd L N ((n : Int) + 1) (by omega)
  obtain ⟨h, _⟩ := fragGGo_ok false L (nextN L N ((n : Int) + 1)).toNat ⟨[], [], 0, N + 1⟩ 0 (fgk_start false (N + 1))
  have hp := h.plain rfl
  have hl := h.len
  have hby := h.bytes
  have hnm := h.normal
  have e : (fragG false L N n).1 = (fragGGo false L (nextN L N ((n : Int) + 1)).toNat ⟨[], [], 0, N + 1⟩).f := by
    show _ ++ closeG _ = _
    rw [hp.2]
    exact List.append_nil _
  rw [e]
  have := wdI_bytes (fragGGo false L (nextN L N ((n : Int) + 1)).toNat ⟨[], [], 0, N + 1⟩).f
  exact ⟨hnm, hp.1, by omega, by omega⟩

end Go.Proofs.YtfkojnofbpdjdaaGreatDoor

namespace Go.Proofs.YtfkojnofbpdjdaaGreatDoor
set_option maxRecDepth 100000
open Go.RowKit

set_option maxRecDepth 100000 in
set_option maxHeartbeats 16000000 in
theorem fragmentP_any (L : List Int) (g : Nat) (n : Nat) (w : World) (h : Nums w g L 0) (hn : n ≤ 8) :
    Calls Tryz.prog 9 #[.pointer (some ⟨g, 0, none⟩), .int .i64 n, .bool false, .bool true] w (FragRet g (fragG false L 0 n).1 w) := by
  obtain ⟨R, HRR⟩ : ∃ R, Hid (R = FragRet g (fragG false L 0 n).1 w) := ⟨_, rfl⟩
  rw [← HRR.out]
  obtain ⟨tgt, HT⟩ : ∃ tgt, Hid (fragGGo false L (nextN L 0 ((n : Int) + 1)).toNat ⟨[], [], 0, 1⟩ = tgt) := ⟨_, rfl⟩
  have HTG : Hid ((fragG false L 0 n).1 = tgt.f ++ closeG tgt.op) := by
    show _ = _
    rw [← HT.out]
    rfl
  rw [HTG.out] at HRR
  have hb := nextN_bd L 0 ((n : Int) + 1) (by omega)
  have HNX := Lib.hid (next_any' L g 0 ((n : Int) + 1) w h (by omega) (by omega) (by omega))
  have hgB := h.lt
  generalize nextN L 0 ((n : Int) + 1) = z at HT hb HNX
  obtain ⟨m, rfl⟩ : ∃ m : Nat, z = (m : Int) := ⟨z.toNat, by omega⟩
  rw [Int.toNat_natCast] at HT
  have hm : m ≤ 8 := by omega
  clear h HTG
  go_enter Tryz.func9, Tryz.ntmps9
  go_wp2_with fail
  refine (HNX.out).mono ?_
  rintro e w1 ⟨rfl, hb1, hn1⟩
  have HB1 := Lib.hid hb1
  have HN1 := Lib.hid hn1
  clear hb1 hn1
  go_wp2_with fail
  obtain ⟨wo, HWO⟩ : ∃ wo, Hid (wo = w1) := ⟨w1, rfl⟩
  go_loopg [9, 10, 11, 12] m (fun gk fv ov dv iv wr => ∃ (s : FS) (i r : Nat), ov = .slice none 0 0 ∧ dv = .int .i64 0 ∧ iv = .int .i64 i ∧ r + i = m ∧ s.op = [] ∧ s.id = 0 ∧ s.N ≤ 1 + 9 * r ∧ Hid (FGK false s r) ∧ Hid (OwnT 31 wr w.heap.size fv s.f) ∧ Hid (But g w wr) ∧ Hid (Nums wr g L s.N) ∧ Hid (fragGGo false L i s = tgt) ∧ i ≤ gk)
  case atStart => exact ⟨⟨[], [], 0, 1⟩, m, 0, rfl, rfl, rfl, by omega, rfl, rfl, (by show 1 ≤ 1 + 9 * 0; omega), fgk_start false 1, OwnE.nil, HB1.out, HN1.out, HT.out, Nat.le_refl _⟩
  case round =>
    clear HWO HB1 HN1 HT
    obtain ⟨⟨f, op, id, N'⟩, i, r, rfl, rfl, rfl, hri, hop, hid, hfn, HOK, HF, HB, HN, HG, hgk⟩ := hrel
    simp only at hop hid hfn HF HN
    subst hop hid
    obtain ⟨A1, d1, hv1⟩ := own_shape HF.out
    subst hv1
    cases i with
    | zero =>
      have he : tgt = ⟨f, [], 0, N'⟩ := HG.out.symm
      rw [he] at HRR
      have HRR2 : Hid (R = FragRet g f w) := by
        show _ = _
        rw [HRR.out]
        show FragRet g (f ++ []) w = _
        rw [List.append_nil]
      clear HG he
      go_wp2_with fail
      obtain ⟨wo, HWO⟩ : ∃ wo, Hid (wo = wr) := ⟨wr, rfl⟩
      go_loopg [9, 15] 0 (fun gk fv kv wr' => wr' = wr ∧ fv = .slice A1 f.length d1 ∧ kv = .int .i64 (-1))
      case atStart => exact ⟨rfl, rfl, rfl⟩
      case round =>
        obtain ⟨rfl, rfl, rfl⟩ := hrel
        go_wp2_with fail
        rw [HRR2.out]
        exact ⟨_, rfl, HF.out, HB.out⟩
    | succ i =>
      have hi0 : (0 : Int) < ((i + 1 : Nat) : Int) := by omega
      have hl := lineL_bd L N' 3 (by decide)
      have HLN := Lib.hid (line_any' L g N' 3 wr HN.out (by omega) (by decide) (by decide))
      have HG2 := HG.out
      rw [fragGGo] at HG2
      have hst : fragGStep false L ⟨f, [], 0, N'⟩ = ⟨normL (f ++ [(itemG false L (nextN L (lineL L N' 3).2 8) (lineL L N' 3).1 [] 0 ((lineL L N' 3).2 + 1)).1]), (itemG false L (nextN L (lineL L N' 3).2 8) (lineL L N' 3).1 [] 0 ((lineL L N' 3).2 + 1)).2.1,
        (itemG false L (nextN L (lineL L N' 3).2 8) (lineL L N' 3).1 [] 0 ((lineL L N' 3).2 + 1)).2.2.1, (itemG false L (nextN L (lineL L N' 3).2 8) (lineL L N' 3).1 [] 0 ((lineL L N' 3).2 + 1)).2.2.2⟩ := rfl
      obtain ⟨hok2, hN2⟩ := FGK.step false L _ r HOK.out
      rw [hst] at HG2 hok2 hN2
      have hfl := HOK.out.len
      have hby := HOK.out.bytes
      simp only at hfl hby
      generalize lineL L N' 3 = ln at hl HLN HG2 hok2 hN2
      obtain ⟨t, M⟩ := ln
      simp only at hl HLN HG2 hok2 hN2
      have c8 := nextN_bd L M 8 (by decide)
      have HX8 := Lib.hid (fun w h => next_any' L g M 8 w h (by omega) (by decide) (by decide))
      generalize nextN L M 8 = c at c8 HX8 HG2 hok2 hN2
      have HGG := Lib.hid HG2
      have HOK2 := Lib.hid hok2
      have HN2' := Lib.hid hN2
      clear hst hok2 HG2 HG HOK hN2
      go_wp2_with fail
      refine (HLN.out).mono ?_
      rintro e w2 ⟨rfl, hb2, hn2⟩
      have hB2 := HB.out.trans hb2
      have HF2 := Lib.hid (own_same HF.out (w' := w2) fun k hk => by have := HF.out.lt k hk; exact hb2.block k this.2 (by omega))
      have HN2 := Lib.hid hn2
      have hg2 := hn2.lt
      have HB2 := Lib.hid hB2
      have hsz2 := hB2.size
      clear hb2 hn2 hB2 HF HN HLN HB
      go_upto_block 2 with (go_at_call 34; refine (HX8.out _ (by exact HN2.out.alloc _)).mono ?_; rintro e w3 ⟨rfl, hb3, hn3⟩)
      have HFR : FR g w2.heap.size w (.slice A1 f.length d1) f L (.slice none 0 0) [] ⟨1, t, 0⟩ (M + 1) w3 := by
        have h0 : FR g w2.heap.size w (.slice A1 f.length d1) f L (.slice none 0 0) [] ⟨1, t, 0⟩ M (w2.alloc (.cells #[.int .i64 1, .string t, .int .i64 0] 31)) := by
          refine ⟨own_same HF2.out fun k hk => Below.heap_alloc _ _ _ (HF2.out.lt k hk).2, OwnE.nil, (fun k hk => by intro h; cases h), fun k hk => ?_, (fun k hk => by cases hk), Array.getElem?_push_size, HB2.out.alloc _, HN2.out.alloc _, hgB, hsz2⟩
          have := (HF2.out.lt k hk).2; omega
        exact h0.call hb3 hn3
      have hg3 := hn3.lt
      clear hb3 hn3 HX8 HF2 HN2 HB2
      go_cut [10, 11] (fun ov dv wx => ∃ (x : Tk) (M' : Nat), ov = .slice none 0 0 ∧ dv = .int .i64 0 ∧ Hid (itemG false L c t [] 0 (M + 1) = (x, [], 0, M')) ∧ FR g w2.heap.size w (.slice A1 f.length d1) f L (.slice none 0 0) [] x M' wx)
      case first =>
        rcases (show c = 0 ∨ c = 1 ∨ c = 2 ∨ c = 3 ∨ c = 4 ∨ c = 5 ∨ c = 6 ∨ c = 7 from by omega) with rfl | rfl | rfl | rfl | rfl | rfl | rfl | rfl
        · have hz := nextN_bd L (M + 1) 3 (by decide)
          have HI : Hid (itemG false L 0 t [] 0 (M + 1) = (⟨5, slotW.getD (nextN L (M + 1) 3).toNat ⟨#[]⟩, 0⟩, [], 0, M + 1 + 1)) := by
            show itemG false L 0 t [] 0 (M + 1) = _
            rfl
          have HX3 := Lib.hid (fun w h => next_any' L g (M + 1) 3 w h (by omega) (by decide) (by decide))
          generalize nextN L (M + 1) 3 = z at hz HI HX3
          have hzn : ((z.toNat : Nat) : Int) = z := by omega
          go_wp2_with fail
          refine (HX3.out _ (by exact HFR.num.alloc (.cells (slotW.map Value.string).toArray 9))).mono ?_
          rintro e w5 ⟨rfl, hb5, hn5⟩
          have q := words_at (xs := slotW) z hz.1 hz.2 hg3 (by exact hb5)
          have HFR5 := (HFR.alloc (.cells (slotW.map Value.string).toArray 9)).call hb5 hn5
          have hg5 := hn5.lt
          obtain ⟨p0, p1, p2, p3, p4, p5⟩ := box_facts HFR5.box
          generalize slotW.getD z.toNat ⟨#[]⟩ = word at q HI
          clear hb5 hn5 HX3
          go_wp2_with fail
          go_meet
          exact ⟨⟨5, word, 0⟩, M + 1 + 1, rfl, rfl, HI.out, HFR5.set3 ⟨5, word, 0⟩⟩
        · have hz := nextN_bd L (M + 1) 3 (by decide)
          have HI : Hid (itemG false L 1 t [] 0 (M + 1) = (⟨5, slotW.getD (nextN L (M + 1) 3).toNat ⟨#[]⟩, 0⟩, [], 0, M + 1 + 1)) := by
            show itemG false L 1 t [] 0 (M + 1) = _
            rfl
          have HX3 := Lib.hid (fun w h => next_any' L g (M + 1) 3 w h (by omega) (by decide) (by decide))
          generalize nextN L (M + 1) 3 = z at hz HI HX3
          have hzn : ((z.toNat : Nat) : Int) = z := by omega
          go_wp2_with fail
          refine (HX3.out _ (by exact HFR.num.alloc (.cells (slotW.map Value.string).toArray 9))).mono ?_
          rintro e w5 ⟨rfl, hb5, hn5⟩
          have q := words_at (xs := slotW) z hz.1 hz.2 hg3 (by exact hb5)
          have HFR5 := (HFR.alloc (.cells (slotW.map Value.string).toArray 9)).call hb5 hn5
          have hg5 := hn5.lt
          obtain ⟨p0, p1, p2, p3, p4, p5⟩ := box_facts HFR5.box
          generalize slotW.getD z.toNat ⟨#[]⟩ = word at q HI
          clear hb5 hn5 HX3
          go_wp2_with fail
          go_meet
          exact ⟨⟨5, word, 0⟩, M + 1 + 1, rfl, rfl, HI.out, HFR5.set3 ⟨5, word, 0⟩⟩
        · have HI : Hid (itemG false L 2 t [] 0 (M + 1) = (⟨1, t, 0⟩, [], 0, M + 1)) := by
            show itemG false L 2 t [] 0 (M + 1) = _
            rfl
          go_wp2_with fail
          go_meet
          exact ⟨⟨1, t, 0⟩, M + 1, rfl, rfl, HI.out, HFR⟩
        · have HI : Hid (itemG false L 3 t [] 0 (M + 1) = (⟨1, t, 0⟩, [], 0, M + 1)) := by
            show itemG false L 3 t [] 0 (M + 1) = _
            rfl
          go_wp2_with fail
          go_meet
          exact ⟨⟨1, t, 0⟩, M + 1, rfl, rfl, HI.out, HFR⟩
        · have HI : Hid (itemG false L 4 t [] 0 (M + 1) = (⟨1, t, 0⟩, [], 0, M + 1)) := by
            show itemG false L 4 t [] 0 (M + 1) = _
            rfl
          go_wp2_with fail
          go_meet
          exact ⟨⟨1, t, 0⟩, M + 1, rfl, rfl, HI.out, HFR⟩
        · have HI : Hid (itemG false L 5 t [] 0 (M + 1) = (⟨1, t, 0⟩, [], 0, M + 1)) := by
            show itemG false L 5 t [] 0 (M + 1) = _
            rfl
          go_wp2_with fail
          go_meet
          exact ⟨⟨1, t, 0⟩, M + 1, rfl, rfl, HI.out, HFR⟩
        · have HI : Hid (itemG false L 6 t [] 0 (M + 1) = (⟨1, t, 0⟩, [], 0, M + 1)) := by
            show itemG false L 6 t [] 0 (M + 1) = _
            rfl
          go_wp2_with fail
          go_meet
          exact ⟨⟨1, t, 0⟩, M + 1, rfl, rfl, HI.out, HFR⟩
        · have HI : Hid (itemG false L 7 t [] 0 (M + 1) = (⟨1, t, 0⟩, [], 0, M + 1)) := by
            show itemG false L 7 t [] 0 (M + 1) = _
            rfl
          go_wp2_with fail
          go_meet
          exact ⟨⟨1, t, 0⟩, M + 1, rfl, rfl, HI.out, HFR⟩
      case rest =>
        obtain ⟨x, M', rfl, rfl, HXI, HX⟩ := hcut
        have hG := HGG.out
        have hO := HOK2.out
        have hN3 := HN2'.out
        rw [HXI.out] at hG hO hN3
        simp only at hG hO hN3
        have HGX := Lib.hid hG
        have HOX := Lib.hid hO
        have hq1 : x.t.size ≤ 18 := (itemG_ok false L c t [] 0 (M + 1) r hl.1 (by simp) (by simp) (by omega) (fun _ => rfl) x [] 0 M' HXI.out).1
        obtain ⟨p0, p1, p2, _⟩ := box_facts HX.box
        clear hG hO HGG HOK2 HN2'
        go_wp2_with fail
        refine (rconcat_any f [x] _ _ _ (by exact (OwnE.rd tkC_three HX.own).alloc _) (by exact RdT.one_at _ _ rfl x _) (by rw [List.length_singleton]; omega) (by rw [bytesOf_one]; omega)).mono ?_
        rintro e w9 ⟨v9, rfl, hown9, hb9⟩; have HO9 := Lib.hid hown9; have HB9 := Lib.hid (((Below.refl wc.heap.size wc).alloc (Nat.le_refl _) _).trans (hb9.mono (by simp))); clear hown9 hb9
        go_wp2_with fail
        have hzx := HX.but.size
        have hz9 : (wc.alloc (.cells (tkC x).toArray 31)).heap.size = wc.heap.size + 1 := by simp
        go_roundg i
        case measure => omega
        case rel => exact ⟨⟨normL (f ++ [x]), [], 0, M'⟩, i, r + 1, rfl, rfl, by go_num, by omega, rfl, rfl, by show M' ≤ _; omega, HOX.out, own_base HO9.out (by show w.heap.size ≤ (wc.alloc (.cells (tkC x).toArray 31)).heap.size; omega), HX.but.trans (But.of_below HB9.out), HX.num.keepg fun k hk => HB9.out.block k (by omega), HGX.out, Nat.le_refl _⟩

end Go.Proofs.YtfkojnofbpdjdaaGreatDoor

namespace Go.Proofs.YtfkojnofbpdjdaaGreatDoor
set_option maxRecDepth 100000
open Go.ChangeShapes Go.WideShapes Go.ChangeAt Go.RowKit

theorem returnsInHanded_both {H : Type} {enc : TypeId × Value → H} {a : Assume} {C : Checked} {os : Os} {f : FuncId} {fn : Func} {s : ChangeSpec} {conds : List PathCond} {apart fresh handsOn again : Bool} {X : World → Array Value → Prop}
    (hX : ∀ (w w' : World) (args : Array Value), w.heap = w'.heap → X w args → X w' args)
    (own : ownKnob C.prog.godebug = none) (started : os.Started) (noInit : C.prog.inits.idxOf? f = none) (hfn : C.prog.funcs[f]? = some fn)
    (witness : ∃ (w : World) (tape : Tape) (i : Input), w.os = os ∧ (w.forCall tape i).Shaped C.prog ∧ i.vars = [] ∧ Input.okWide C.prog (w.forCall tape i) .any w.heap.size f i ∧
      ((s.pre enc C.prog fn conds apart (w.forCall tape i).memory i.args ∧ X (w.forCall tape i).memory i.args) ∧ sizedMet enc C.prog fn (OpenSpec.ofChange s) apart (w.forCall tape i).memory i.args) ∧ a.holds C.prog (lone (Frame.enter C.prog f i.args .normal) [] (w.forCall tape i)))
    (contract : ∀ (W : World) (base : Nat) (args : Array Value) (ds gs : List (DataW H)) (before : List MemPlace),
      (∀ (j : Nat) t v, fn.params[j]? = some t → args[j]? = some v → Value.okWide C.prog W .any base t v) →
      DataW.Whole enc C.prog fn.params.toList s.vars apart W args.toList ds gs before →
      conds.all (PathCond.test C.prog ⟨fn.params.toList, ds, s.plain.varTypes C.prog, gs⟩) = true →
      (DataW.weightsEach C.prog (fn.params.toList ++ s.plain.varTypes C.prog) (ds ++ gs)).all (· ≤ reachBytes) = true → W.ShapedOpen C.prog → X W args →
      a.holds C.prog (lone (Frame.enter C.prog f args .normal) [] W) →
      Calls C.prog f args W fun e W' => ∃ v, e = .returned v ∧ s.post enc C.prog fn apart fresh handsOn again W args v W') :
    ReturnsInHanded a C os f .any (fun w args => (s.pre enc C.prog fn conds apart w args ∧ X w args) ∧ sizedMet enc C.prog fn (OpenSpec.ofChange s) apart w args) (s.post enc C.prog fn apart fresh handsOn again) := by
  refine returnsInHanded_of_calls own started noInit witness ?_
  intro w tape i _ hsh _ hok hpre hholds
  obtain ⟨_, _, _, fn', hfn', _, _, _, _, hval⟩ := hok
  have e : fn' = fn := Option.some.inj (hfn'.symm.trans hfn)
  subst e
  obtain ⟨⟨⟨ds, gs, before, hw, hc⟩, hx⟩, hz⟩ := hpre
  have hw' := DataW.Whole.of_heap (w' := w.forCall tape i) (by rfl) hw
  refine (contract (w.forCall tape i) w.heap.size i.args ds gs before hval hw' hc (hz.weights hw) hsh (hX _ _ _ (by rfl) hx) hholds).mono fun e W' ⟨v, he, hp⟩ => ?_
  subst he
  exact ChangeSpec.post_blind hp

/-- The cell of the library's own variable holds some number. -/
def Got (w : World) : Prop := ∃ m, w.cell? ⟨0, 0, none⟩ = some (.int .i64 m)
theorem got_of {W : World} (h : W.ShapedOpen Tryz.prog) : Got W :=
  cell_of_shapedOpen_int (zero := #[.int .i64 0]) (t := 3) h (of_decide_eq_true (by kernel_rfl)) (by kernel_rfl) rfl (by kernel_rfl) (by kernel_rfl) Tryz.underlying3

end Go.Proofs.YtfkojnofbpdjdaaGreatDoor
