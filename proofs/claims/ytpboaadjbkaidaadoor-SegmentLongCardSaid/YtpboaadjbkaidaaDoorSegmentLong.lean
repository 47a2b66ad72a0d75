
/-
  The statement SegmentLong: the walk.
-/
import Derived.Test.YtpboaadjbkaidaaDoorKnown6
import Derived.Test.YtpboaadjbkaidaaDoorMathBreaks
import Derived.Test.YtpboaadjbkaidaaDoorMathLit
import Derived.Test.YtpboaadjbkaidaaDoorMakeA
import Derived.Test.YtpboaadjbkaidaaDoorAtoms
namespace Go.Proofs.YtpboaadjbkaidaaDoor
set_option maxRecDepth 100000
open Go.RowKit

def spA : At := litA 32
theorem sp_prefix (t : ByteArray) (h : 0 < t.size) : prefixF [spA] t = (bt t 0 == 32) := by
  rw [Bool.eq_iff_iff, prefix_lang, beq_iff_eq]
  have e1 : seg t 0 1 = [bt t 0] := by rw [seg_snoc t 0 0 (Nat.le_refl _), seg_self]; rfl
  constructor
  · rintro ⟨n, hn, hl⟩
    have h2 := (lang_lits [32] _).1 hl
    have h3 := congrArg List.length h2
    rw [seg_len] at h3
    obtain rfl : n = 1 := by simpa using h3
    rw [e1] at h2
    injection h2
  · intro h1
    refine ⟨1, h, (lang_lits [32] _).2 ?_⟩
    rw [e1, h1]
/-- n bytes 'a', the fourth a space. -/
def longL (n : Nat) : List UInt8 := (List.range n).map fun j => if j = 3 then 32 else 97
def longS (n : Nat) : ByteArray := ⟨(longL n).toArray⟩
theorem longS_size (n : Nat) : (longS n).size = n := by show (longL n).length = n; simp [longL]
theorem longS_bt (n k : Nat) (h : k < n) : bt (longS n) k = if k = 3 then 32 else 97 := by
  unfold bt longS longL
  rw [List.getD_eq_getElem?_getD]
  simp [h]
  split <;> rfl
theorem uptoN_three : ∀ n, uptoN (fun k => k == 3) n = if 3 < n then [3] else []
  | 0 => rfl
  | n + 1 => by
    rw [uptoN_succ, uptoN_three n]
    by_cases h : n = 3
    · subst h; rfl
    · rw [if_neg (show ¬ (n == 3) = true by simpa using h), List.append_nil]
      by_cases h2 : 3 < n
      · rw [if_pos h2, if_pos (by omega)]
      · rw [if_neg h2, if_neg (by omega)]
def longR : Ru := ⟨true, [], [spA]⟩
theorem long_breaks (n : Nat) (h3 : 3 < n) (h : n ≤ 1024) : breaksF [longR] (longS n) = [3] := by
  rw [breaks_upto _ _ (by rw [longS_size]; exact h), longS_size]
  have e : ∀ i, i < n → inB [longR] (longS n) i = (i == 3) := fun i hi => by
    have hz := extract_size (longS n) i (longS n).size (by rw [longS_size]; omega) (Nat.le_refl _)
    rw [longS_size] at hz
    have e1 : decideF [longR] (longS n) i = prefixF [spA] ((longS n).extract i (longS n).size) := by
      rw [decide_cons]
      have e2 : applyF longR (longS n) i = prefixF [spA] ((longS n).extract i (longS n).size) := rfl
      rw [e2]
      cases prefixF [spA] ((longS n).extract i (longS n).size) <;> rfl
    unfold inB
    rw [e1, sp_prefix _ (by rw [longS_size, hz]; omega), bt_extract (longS n) i (longS n).size 0 (by rw [longS_size]; omega) (Nat.le_refl _), Nat.add_zero, longS_bt n i hi]
    by_cases h4 : i = 3
    · subst h4; rfl
    · rw [if_neg h4, show (i == 3) = false from beq_eq_false_iff_ne.2 h4, show ((97 : Nat) == 32) = false from rfl, Bool.and_false]
  rw [uptoN_congr e, uptoN_three, if_pos h3]
theorem long_none (n : Nat) (h : 1024 < n) : breaksF [longR] (longS n) = [] := by
  unfold breaksF
  rw [if_pos (by rw [longS_size]; exact h)]
theorem at_zero2 (w : World) : AtIn ((w.alloc (.cells (atE 0 false) 26)).alloc (.cells (atE 0 false) 26)) (w.heap.size + 1) ⟨noP, 0, false⟩ := by
  have h := at_zero (w.alloc (.cells (atE 0 false) 26))
  rw [show (w.alloc (.cells (atE 0 false) 26)).heap.size = w.heap.size + 1 from Array.size_push ..] at h
  exact h
theorem at_zero3 (w : World) : AtIn ((w.alloc (.cells (atE 0 false) 26)).alloc (.cells (atE 0 false) 26)) w.heap.size ⟨noP, 0, false⟩ :=
  (at_zero w).keep (Below.heap_alloc _ _ _ (by show w.heap.size < (w.heap.push _).size; rw [Array.size_push]; omega))
theorem res_at {fn : Func} {p : Tmp} (h : fn.results = #[.cell p 26]) (tmps : Array Value) (w : World) (g : Nat) (x : At) (hp : tmps.getD p undef = .pointer (some ⟨g, 0, none⟩)) (hs : AtIn w g x) :
    (results fn tmps).run Tryd.prog w = .ok (.agg (atC x).toArray) w :=
  results_cell_row h tmps w g 26 (atC x).toArray (0, 0) _ hp hs Tryd.underlying26 rfl (by rw [atom_size, atC_size])
theorem sp_byte : ∀ i, i < 32 → i ≠ 4 → byteOf spA.p i = byteOf noP i := by decide
set_option maxRecDepth 100000 in
set_option maxHeartbeats 8000000 in
theorem space_any (w : World) : Calls Tryd.prog 15 #[] w fun e w' => e = .returned (.agg (atC spA).toArray) ∧ Below w.heap.size w w' := by
  go_enter Tryd.func15, Tryd.ntmps15
  go_upto_region 2 with (refine wpList_store_row rfl 26 (.tmp 1) (.tmp 2) rfl (w.heap.size + 1) (atE 1 false) rfl rfl 26 (atC ⟨noP, 0, false⟩).toArray (by exact at_zero2 w) (by rw [atom_size]; rfl) (by rw [atC_size]; rfl) (by rw [atE_eq]; exact atC_oneA _) ?_; rw [atE_eq])
  have HA4 : Hid (AtIn (((w.alloc (.cells #[.int .u8 0, .int .u8 0, .int .u8 0, .int .u8 0, .int .u8 0, .int .u8 0, .int .u8 0, .int .u8 0, .int .u8 0, .int .u8 0, .int .u8 0, .int .u8 0, .int .u8 0, .int .u8 0, .int .u8 0, .int .u8 0, .int .u8 0, .int .u8 0, .int .u8 0, .int .u8 0, .int .u8 0, .int .u8 0, .int .u8 0, .int .u8 0, .int .u8 0, .int .u8 0, .int .u8 0, .int .u8 0, .int .u8 0, .int .u8 0, .int .u8 0, .int .u8 0, .int .i64 0, .bool false] 26)).alloc (.cells #[.int .u8 0, .int .u8 0, .int .u8 0, .int .u8 0, .int .u8 0, .int .u8 0, .int .u8 0, .int .u8 0, .int .u8 0, .int .u8 0, .int .u8 0, .int .u8 0, .int .u8 0, .int .u8 0, .int .u8 0, .int .u8 0, .int .u8 0, .int .u8 0, .int .u8 0, .int .u8 0, .int .u8 0, .int .u8 0, .int .u8 0, .int .u8 0, .int .u8 0, .int .u8 0, .int .u8 0, .int .u8 0, .int .u8 0, .int .u8 0, .int .u8 0, .int .u8 0, .int .i64 0, .bool false] 26)).setRow (w.heap.size + 1) (atC ⟨noP, 1, false⟩).toArray) (w.heap.size + 1) ⟨noP, 1, false⟩) := Lib.hid ((at_zero2 w).row ⟨noP, 1, false⟩)
  have HR4 : Hid (AtIn (((w.alloc (.cells #[.int .u8 0, .int .u8 0, .int .u8 0, .int .u8 0, .int .u8 0, .int .u8 0, .int .u8 0, .int .u8 0, .int .u8 0, .int .u8 0, .int .u8 0, .int .u8 0, .int .u8 0, .int .u8 0, .int .u8 0, .int .u8 0, .int .u8 0, .int .u8 0, .int .u8 0, .int .u8 0, .int .u8 0, .int .u8 0, .int .u8 0, .int .u8 0, .int .u8 0, .int .u8 0, .int .u8 0, .int .u8 0, .int .u8 0, .int .u8 0, .int .u8 0, .int .u8 0, .int .i64 0, .bool false] 26)).alloc (.cells #[.int .u8 0, .int .u8 0, .int .u8 0, .int .u8 0, .int .u8 0, .int .u8 0, .int .u8 0, .int .u8 0, .int .u8 0, .int .u8 0, .int .u8 0, .int .u8 0, .int .u8 0, .int .u8 0, .int .u8 0, .int .u8 0, .int .u8 0, .int .u8 0, .int .u8 0, .int .u8 0, .int .u8 0, .int .u8 0, .int .u8 0, .int .u8 0, .int .u8 0, .int .u8 0, .int .u8 0, .int .u8 0, .int .u8 0, .int .u8 0, .int .u8 0, .int .u8 0, .int .i64 0, .bool false] 26)).setRow (w.heap.size + 1) (atC ⟨noP, 1, false⟩).toArray) w.heap.size ⟨noP, 0, false⟩) := Lib.hid ((at_zero3 w).keep (setRow_other _ _ _ _ (by omega)))
  have HB4 : Hid (Below w.heap.size w (((w.alloc (.cells #[.int .u8 0, .int .u8 0, .int .u8 0, .int .u8 0, .int .u8 0, .int .u8 0, .int .u8 0, .int .u8 0, .int .u8 0, .int .u8 0, .int .u8 0, .int .u8 0, .int .u8 0, .int .u8 0, .int .u8 0, .int .u8 0, .int .u8 0, .int .u8 0, .int .u8 0, .int .u8 0, .int .u8 0, .int .u8 0, .int .u8 0, .int .u8 0, .int .u8 0, .int .u8 0, .int .u8 0, .int .u8 0, .int .u8 0, .int .u8 0, .int .u8 0, .int .u8 0, .int .i64 0, .bool false] 26)).alloc (.cells #[.int .u8 0, .int .u8 0, .int .u8 0, .int .u8 0, .int .u8 0, .int .u8 0, .int .u8 0, .int .u8 0, .int .u8 0, .int .u8 0, .int .u8 0, .int .u8 0, .int .u8 0, .int .u8 0, .int .u8 0, .int .u8 0, .int .u8 0, .int .u8 0, .int .u8 0, .int .u8 0, .int .u8 0, .int .u8 0, .int .u8 0, .int .u8 0, .int .u8 0, .int .u8 0, .int .u8 0, .int .u8 0, .int .u8 0, .int .u8 0, .int .u8 0, .int .u8 0, .int .i64 0, .bool false] 26)).setRow (w.heap.size + 1) (atC ⟨noP, 1, false⟩).toArray)) := Lib.hid (below_setRow (((Below.refl _ w).alloc (Nat.le_refl _) _).alloc (by rw [show (w.alloc (.cells #[.int .u8 0, .int .u8 0, .int .u8 0, .int .u8 0, .int .u8 0, .int .u8 0, .int .u8 0, .int .u8 0, .int .u8 0, .int .u8 0, .int .u8 0, .int .u8 0, .int .u8 0, .int .u8 0, .int .u8 0, .int .u8 0, .int .u8 0, .int .u8 0, .int .u8 0, .int .u8 0, .int .u8 0, .int .u8 0, .int .u8 0, .int .u8 0, .int .u8 0, .int .u8 0, .int .u8 0, .int .u8 0, .int .u8 0, .int .u8 0, .int .u8 0, .int .u8 0, .int .i64 0, .bool false] 26)).heap.size = w.heap.size + 1 from Array.size_push ..]; omega) _) (by omega) _)
  generalize (((w.alloc (.cells #[.int .u8 0, .int .u8 0, .int .u8 0, .int .u8 0, .int .u8 0, .int .u8 0, .int .u8 0, .int .u8 0, .int .u8 0, .int .u8 0, .int .u8 0, .int .u8 0, .int .u8 0, .int .u8 0, .int .u8 0, .int .u8 0, .int .u8 0, .int .u8 0, .int .u8 0, .int .u8 0, .int .u8 0, .int .u8 0, .int .u8 0, .int .u8 0, .int .u8 0, .int .u8 0, .int .u8 0, .int .u8 0, .int .u8 0, .int .u8 0, .int .u8 0, .int .u8 0, .int .i64 0, .bool false] 26)).alloc (.cells #[.int .u8 0, .int .u8 0, .int .u8 0, .int .u8 0, .int .u8 0, .int .u8 0, .int .u8 0, .int .u8 0, .int .u8 0, .int .u8 0, .int .u8 0, .int .u8 0, .int .u8 0, .int .u8 0, .int .u8 0, .int .u8 0, .int .u8 0, .int .u8 0, .int .u8 0, .int .u8 0, .int .u8 0, .int .u8 0, .int .u8 0, .int .u8 0, .int .u8 0, .int .u8 0, .int .u8 0, .int .u8 0, .int .u8 0, .int .u8 0, .int .u8 0, .int .u8 0, .int .i64 0, .bool false] 26)).setRow (w.heap.size + 1) (atC ⟨noP, 1, false⟩).toArray) = w4 at HA4 HR4 HB4 ⊢
  have q1 : w4.cell? ⟨w.heap.size + 1, 4, none⟩ = some (.int .u8 0) := HA4.out.range 4 _ (by rfl)
  have q2 := HA4.out.free 4
  go_upto_region 3 with fail
  have HA5 : Hid (AtIn (w4.setCell ⟨w.heap.size + 1, 4, none⟩ (.int .u8 (bits BinOp.or .u8 0 1))) (w.heap.size + 1) spA) := Lib.hid (HA4.out.setSet spA.p 4 (by decide) sp_byte)
  have HR5 : Hid (AtIn (w4.setCell ⟨w.heap.size + 1, 4, none⟩ (.int .u8 (bits BinOp.or .u8 0 1))) w.heap.size ⟨noP, 0, false⟩) := Lib.hid (HR4.out.keep (heap_setCell_other _ _ _ _ (by simp)))
  have HB5 : Hid (Below w.heap.size w (w4.setCell ⟨w.heap.size + 1, 4, none⟩ (.int .u8 (bits BinOp.or .u8 0 1)))) := Lib.hid (HB4.out.setCell (by simp) _)
  generalize w4.setCell ⟨w.heap.size + 1, 4, none⟩ (.int .u8 (bits BinOp.or .u8 0 1)) = w5 at HA5 HR5 HB5 ⊢
  clear HA4 HR4 HB4 q1 q2
  go_wp2_with (first
    | (refine wpList_load_row rfl 26 (.tmp 1) rfl (w.heap.size + 1) rfl 26 (atC spA).toArray (0, 0) _ HA5.out Tryd.underlying26 rfl (by rw [atom_size, atC_size]) ?_)
    | (refine wpList_store_row rfl 26 (.tmp 0) (.tmp 9) rfl (w.heap.size) (atC spA).toArray rfl rfl 26 (atC ⟨noP, 0, false⟩).toArray HR5.out (by rw [atom_size, atC_size]) (by simp only [atC_size]) (atC_oneA _) ?_))
  exact bodyPost_ret (res_at Tryd.results15 _ _ w.heap.size spA rfl (HR5.out.row spA)) rfl ⟨rfl, below_setRow HB5.out (Nat.le_refl _) _⟩

set_option maxRecDepth 100000 in
set_option maxHeartbeats 8000000 in
theorem sameInts_any (l : List Int) (va vb : Value) (w : World) (ha : RdE intC 1 w va l) (hb : RdE intC 1 w vb l) (hl : l.length ≤ 140737488355328) :
    Calls Tryd.prog 18 #[va, vb] w fun e w' => e = .returned (.bool true) ∧ Below w.heap.size w w' := by
  obtain ⟨A, c, rfl, hlc, _⟩ := ha.shape
  obtain ⟨A2, c2, rfl, hlc2, _⟩ := hb.shape
  have HA := Lib.hid ha
  have HB := Lib.hid hb
  clear ha hb
  go_enter Tryd.func18, Tryd.ntmps18
  go_wp2_with fail
  obtain ⟨wo, HWO⟩ : ∃ wo, Hid (wo = w) := ⟨w, rfl⟩
  go_loopg [13] l.length (fun gk kv wr => ∃ k : Nat, kv = .int .i64 k ∧ k ≤ l.length ∧ Hid (Below w.heap.size w wr) ∧ l.length - k ≤ gk)
  case atStart => exact ⟨0, rfl, by omega, Below.refl _ _, by omega⟩
  case round =>
    obtain ⟨k, rfl, hk, HW, hgk⟩ := hrel
    by_cases hkl : k < l.length
    · have hki : (k : Int) < (l.length : Int) := by omega
      have hk0 : (0 : Int) ≤ (k : Int) := by omega
      obtain ⟨b1, o1, rfl, hb1, hc1⟩ := HA.out.cells (by omega)
      obtain ⟨b2, o2, rfl, hb2, hc2⟩ := HB.out.cells (by omega)
      have q1 := (HW.out.cell (p := ⟨b1, o1 + (k * 1 + 0), none⟩) hb1).trans (hc1 k l[k] 0 _ (List.getElem?_eq_getElem hkl) rfl)
      have q2 := (HW.out.cell (p := ⟨b2, o2 + (k * 1 + 0), none⟩) hb2).trans (hc2 k l[k] 0 _ (List.getElem?_eq_getElem hkl) rfl)
      rw [show o1 + (k * 1 + 0) = o1 + k by omega] at q1
      rw [show o2 + (k * 1 + 0) = o2 + k by omega] at q2
      clear hc1 hc2
      generalize l[k] = x at q1 q2
      have t1 : (x != x) = false := bne_self_eq_false x
      go_upto_region 6 with fail
      go_quiet (fail)
      go_wp2_with fail
      go_roundg (l.length - (k + 1))
      case measure => omega
      case rel => exact ⟨k + 1, by go_num, by omega, below_drewN HW.out _, Nat.le_refl _⟩
    · obtain rfl : k = l.length := by omega
      have hki : ¬ (l.length : Int) < (l.length : Int) := by omega
      go_wp2_with fail
      go_ret
      exact ⟨rfl, HW.out⟩

theorem run_fwd (s : ByteArray) (src dst : TypeId) {e : TypeId} (hs : Tryd.prog.underlying src = some (.slice e)) (he : Tryd.prog.underlying e = some (.int .u8)) (hd : Tryd.prog.underlying dst = some .string) (w : World) (g : Nat)
    (h : w.rowIs g e s.size (fun j => .int .u8 (bt s j : Int))) : (convert src dst (.slice (some ⟨g, 0, none⟩) s.size s.size)).run Tryd.prog w = .ok (.string s) w := by
  have hl : s.data.toList.length = s.size := (Lib.size_eq s).symm
  have := run_convert_bytes_back (P := Tryd.prog) w src dst e ⟨g, 0, none⟩ s.size s.data.toList hs he hd (fun j hj => by
    have hj2 : j < s.size := by simpa [hl] using hj
    rw [Addr.add_lit, Nat.zero_add, h.cell hj2]
    congr 2
    unfold bt
    rw [List.getD_eq_getElem?_getD, List.getElem?_eq_getElem (by omega)]
    simp)
  rw [hl] at this
  rw [this]
theorem alloc_size (w : World) (o : Obj) : (w.alloc o).heap.size = w.heap.size + 1 := Array.size_push ..
theorem long_rd (w : World) : Hid (RdRu ((w.alloc (.cells (atC spA).toArray 26)).alloc (.cells #[.bool true, .slice none 0 0, .slice (some ⟨w.heap.size, 0, none⟩) 1 1] 30)) (.slice (some ⟨w.heap.size + 1, 0, none⟩) 1 1) [longR]) := by
  refine Lib.hid ⟨[⟨true, ⟨none, 0, 0⟩, ⟨some ⟨w.heap.size, 0, none⟩, 1, 1⟩⟩], rdE_one_at ruC 3 ruC_len _ _ (alloc_size _ _) _ _, rfl, fun i x r hx hr => ?_⟩
  cases i with
  | zero =>
    injection hx with hx
    injection hr with hr
    subst hx hr
    exact ⟨rfl, ⟨none, 0, rfl, Nat.le_refl _, fun _ => rfl, fun h => absurd h (Nat.lt_irrefl 0)⟩, (rdE_one_at atC 34 atC_len w w.heap.size rfl spA 26).below ((Below.refl _ _).alloc (Nat.le_refl _) _) (Nat.le_refl _)⟩
  | succ i => exact absurd hx (by simp)
theorem long_below {w w2 : World} {o o2 : Obj} {B : Nat} (h : Below w.heap.size w w2) (hs : w.heap.size ≤ B) (hs2 : B ≤ w2.heap.size) : Hid (Below w.heap.size w ((w2.alloc o).alloc o2)) :=
  Lib.hid ((h.alloc (Nat.le_trans hs hs2) o).alloc (by rw [alloc_size]; omega) o2)
theorem row_keep {w w' : World} {g k : Nat} {t : TypeId} {f : Nat → Value} (h : w.rowIs g t k f) (hb : Below w.heap.size w w') : w'.rowIs g t k f := by
  obtain ⟨c, h1, h2, h3⟩ := h
  exact ⟨c, (hb.block g (Array.getElem?_eq_some_iff.1 h1).1).trans h1, h2, h3⟩
theorem long_row {w w2 : World} {o o2 : Obj} {g k : Nat} {t : TypeId} {f : Nat → Value} (h : w.rowIs g t k f) (hb : Below w.heap.size w w2) : Hid (((w2.alloc o).alloc o2).rowIs g t k f) :=
  Lib.hid (row_keep h ((((Below.refl _ w).trans hb).alloc hb.size o).alloc (by rw [alloc_size]; have := hb.size; omega) o2))
theorem got_below {w w' : World} (hg : Got w) (hb : Below w.heap.size w w') : Got w' := by
  obtain ⟨m, hm⟩ := hg
  exact ⟨m, (hb.cell (p := ⟨0, 0, none⟩) (got_lt hm)).trans hm⟩

set_option maxRecDepth 100000 in
set_option maxHeartbeats 8000000 in
theorem walk_SegmentLong (x : Int) (w : World) (hg : Got w) (hx0 : (Lit.int .i64 x).wf = true) :
    Calls Tryd.prog 3 #[.int .i64 x] w fun e w' => e = .returned (.bool true) ∧ Below w.heap.size w w' := by
  have hz0 : 0 ≤ x % 3 := Int.emod_nonneg _ (by decide)
  have hz1 : x % 3 < 3 := Int.emod_lt_of_pos _ (by decide)
  have hx : IntIn x := by simpa [Lit.wf, IntKind.min, IntKind.max, IntKind.signed, IntKind.bits, IntIn] using hx0
  obtain ⟨z, hz⟩ : ∃ z : Nat, x % 3 = (z : Int) := ⟨(x % 3).toNat, by omega⟩
  obtain ⟨n, hn⟩ : ∃ n : Nat, n = 1023 + z := ⟨_, rfl⟩
  have hni : (1023 : Int) + (z : Int) = (n : Int) := by omega
  have hn1 : n ≤ 1025 := by omega
  have hn0 : 1023 ≤ n := by omega
  have HPL := Lib.hid (fun w => place_any x 3 w hx (by decide) (by decide))
  rw [hz] at HPL hz1
  have hz2 : (1023 : Int) + (z : Int) ≤ 1025 := by omega
  have hnz : (1023 : Int) ≤ (n : Int) := by omega
  clear hz0 hz hx0 hn
  replace hni := Lib.hid hni
  have hmk := fun w => run_make_row' (P := Tryd.prog) 23 5 (.int .u8 0) 1 Tryd.underlying23 u8_info6 rfl .i64 .i64 n (by omega) (by omega) w
  go_enter Tryd.func3, Tryd.ntmps3
  go_upto_region 2 with (go_at_call 14; refine (HPL.out _).mono ?_; rintro e w1 ⟨rfl, rfl⟩)
  rw [hni.out]
  have HR0 : Hid ((w.alloc (.cells (madeCells #[.int .u8 0] n) 5)).rowIs w.heap.size 5 n (fun j => .int .u8 (if j < 0 then 97 else 0))) := (World.rowIs_made w (.int .u8 0) n 5).congr fun j _ => by rw [if_neg (Nat.not_lt_zero j)]
  have HB0 := Lib.hid ((Below.refl w.heap.size w).alloc (Nat.le_refl _) (.cells (madeCells #[.int .u8 0] n) 5))
  go_upto_region 3 with fail
  generalize hg0 : w.heap.size = g at HR0 ⊢
  generalize w.alloc (.cells (madeCells #[.int .u8 0] n) 5) = w1 at HR0 HB0 ⊢
  go_wp2_with fail
  go_loopg [14] n (fun gk kv wr => ∃ k : Nat, k ≤ n ∧ kv = .int .i64 k ∧ Hid (wr.rowIs g 5 n (fun j => .int .u8 (if j < k then 97 else 0))) ∧ Hid (Below w.heap.size w wr) ∧ n - k ≤ gk)
  case atStart => exact ⟨0, by omega, rfl, HR0.out, HB0.out, by omega⟩
  case round =>
    clear HR0 HB0
    obtain ⟨k, hk, rfl, HR, HB, hgk⟩ := hrel
    by_cases hkl : k < n
    · have hki : (k : Int) < (n : Int) := by omega
      have rf := HR.out.frozen k
      have r0 := HR.out.cell (i := k) hkl
      rw [if_neg (Nat.lt_irrefl k)] at r0
      have HR1 : Hid ((wr.setCell ⟨g, k, none⟩ (.int .u8 97)).rowIs g 5 n (fun j => .int .u8 (if j < k + 1 then 97 else 0))) := (HR.out.set k (.int .u8 97)).congr fun i hi => by
        by_cases h : i = k
        · rw [if_pos h, if_pos (by omega)]
        · rw [if_neg h]
          by_cases h2 : i < k
          · rw [if_pos h2, if_pos (by omega)]
          · rw [if_neg h2, if_neg (by omega)]
      go_wp2_with fail
      go_roundg (n - (k + 1))
      case measure => omega
      case rel => exact ⟨k + 1, by omega, by go_num, HR1.out, HB.out.setCell (p := ⟨g, k, none⟩) (show w.heap.size ≤ g by omega) _, Nat.le_refl _⟩
    · obtain rfl : k = n := by omega
      have hki : ¬ (k : Int) < (k : Int) := by omega
      have h3k : (3 : Int) < (k : Int) := by omega
      have rf := HR.out.frozen 3
      have r0 := HR.out.cell (i := 3) (by omega)
      rw [if_pos (by omega)] at r0
      have HR1 : Hid ((wr.setCell ⟨g, 3, none⟩ (.int .u8 32)).rowIs g 5 k (fun j => .int .u8 (bt (longS k) j : Int))) := (HR.out.set 3 (.int .u8 32)).congr fun i hi => by
        rw [longS_bt k i hi]
        by_cases h : i = 3
        · rw [if_pos h, if_pos h]; rfl
        · rw [if_neg h, if_neg h, if_pos hi]; rfl
      have HB1 : Hid (Below w.heap.size w (wr.setCell ⟨g, 3, none⟩ (.int .u8 32))) := HB.out.setCell (p := ⟨g, 3, none⟩) (show w.heap.size ≤ g by omega) _
      go_upto_region 9 with fail
      generalize wr.setCell ⟨g, 3, none⟩ (.int .u8 32) = w2 at HR1 HB1 ⊢
      clear HR HB rf r0 hgk
      go_upto_region 10 with (first
        | (go_at_call 15; refine (space_any _).mono ?_; rintro e w3 ⟨rfl, hb3⟩)
        | (refine wpList_buildOne rfl (.tmp 23) (by rfl) spA (by rfl) ?_))
      have HRU : Hid (RdRu ((w3.alloc (.cells (atC spA).toArray 26)).alloc (.cells #[.bool true, .slice none 0 0, .slice (some ⟨w3.heap.size, 0, none⟩) 1 1] 30)) (.slice (some ⟨w3.heap.size + 1, 0, none⟩) 1 1) [longR]) := long_rd w3
      have HB4 : Hid (Below w.heap.size w ((w3.alloc (.cells (atC spA).toArray 26)).alloc (.cells #[.bool true, .slice none 0 0, .slice (some ⟨w3.heap.size, 0, none⟩) 1 1] 30))) := long_below (HB1.out.trans (hb3.mono HB1.out.size)) HB1.out.size hb3.size
      have HR4 : Hid (((w3.alloc (.cells (atC spA).toArray 26)).alloc (.cells #[.bool true, .slice none 0 0, .slice (some ⟨w3.heap.size, 0, none⟩) 1 1] 30)).rowIs g 5 k (fun j => .int .u8 (bt (longS k) j : Int))) := long_row HR1.out hb3
      generalize (w3.alloc (.cells (atC spA).toArray 26)).alloc (.cells #[.bool true, .slice none 0 0, .slice (some ⟨w3.heap.size, 0, none⟩) 1 1] 30) = w4 at HRU HB4 HR4 ⊢
      have hcv := run_fwd (longS k) 23 9 Tryd.underlying23 Tryd.underlying5 Tryd.underlying9 w4 g (by rw [longS_size]; exact HR4.out)
      rw [longS_size] at hcv
      clear HR1 HB1 HR4 hb3
      go_upto_region 11 with (go_at_call 16; refine (breaks_any [longR] _ (longS k) _ (by exact HRU.out) (by decide) (by decide)).mono ?_; rintro e w5 ⟨v, rfl, ho, hb5⟩)
      have HB5 := Lib.hid (HB4.out.trans (hb5.mono HB4.out.size))
      have HG5 : Hid (Got w5) := Lib.hid (got_below hg HB5.out)
      have HO := Lib.hid ho
      have hz4 := HB4.out.size
      have hz5 := hb5.size
      clear ho hb5 hcv HRU HB4
      by_cases hk4 : 1024 < k
      · have hki4 : (1024 : Int) < (k : Int) := by omega
        rw [long_none k hk4] at HO
        obtain ⟨A, c, rfl⟩ := own_shape HO.out
        go_wp2_with (go_at_call 17; refine (known6_any _ HG5.out).mono ?_; rintro e w6 ⟨rfl, hb6⟩)
        go_ret
        exact ⟨rfl, HB5.out.trans (hb6.mono (by omega))⟩
      · have hki4 : ¬ (1024 : Int) < (k : Int) := by omega
        rw [long_breaks k (by omega) (by omega)] at HO
        have HS := Lib.hid (fun h => sameInts_any [3] v (.slice (some ⟨w5.heap.size, 0, none⟩) 1 1) (w5.alloc (.cells #[.int .i64 3] 3)) h (rdE_one_at intC 1 (fun _ => rfl) w5 w5.heap.size rfl 3 3) (by decide))
        have HS2 := Lib.hid (HS.out ((OwnE.rd (f := intC) (m := 1) (fun _ => rfl) HO.out).below ((Below.refl _ w5).alloc (Nat.le_refl _) _) (Nat.le_refl _)))
        have HB6 : Hid (Below w.heap.size w (w5.alloc (.cells #[.int .i64 3] 3))) := Lib.hid (HB5.out.alloc (by omega) _)
        have HG6 := Lib.hid (fun w7 (h : Below w.heap.size w w7) => known6_any w7 (got_below hg h))
        go_wp2_with (first
          | (go_at_call 18; refine (HS2.out).mono ?_; rintro e w7 ⟨rfl, hb7⟩; have HB7 := Lib.hid (HB6.out.trans (hb7.mono HB6.out.size)))
          | (go_at_call 17; refine (HG6.out _ HB7.out).mono ?_; rintro e w8 ⟨rfl, hb8⟩))
        go_ret
        exact ⟨rfl, HB7.out.trans (hb8.mono HB7.out.size)⟩

end Go.Proofs.YtpboaadjbkaidaaDoor
