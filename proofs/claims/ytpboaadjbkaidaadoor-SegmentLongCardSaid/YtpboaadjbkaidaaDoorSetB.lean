
/-
  Sets of bytes: the inverse, the sets of letters.
-/
import Derived.Test.YtpboaadjbkaidaaDoorSetA
import Derived.Test.YtpboaadjbkaidaaDoorClass
import Derived.Laws.CopyOwn
import Derived.Deep.DeepCutAuto
import Derived.Deep.CutBlock
import Derived.Laws.ResultCell
namespace Go.Proofs.YtpboaadjbkaidaaDoor
set_option maxRecDepth 100000
open Go.RowKit

theorem zero_in (w : World) (t : TypeId) : SetIn (w.alloc (.cells #[.int .u8 0, .int .u8 0, .int .u8 0, .int .u8 0, .int .u8 0, .int .u8 0, .int .u8 0, .int .u8 0, .int .u8 0, .int .u8 0, .int .u8 0, .int .u8 0, .int .u8 0, .int .u8 0, .int .u8 0, .int .u8 0, .int .u8 0, .int .u8 0, .int .u8 0, .int .u8 0, .int .u8 0, .int .u8 0, .int .u8 0, .int .u8 0, .int .u8 0, .int .u8 0, .int .u8 0, .int .u8 0, .int .u8 0, .int .u8 0, .int .u8 0, .int .u8 0] t)) w.heap.size t noP := by
  rw [zero_set]
  exact heap_alloc_new w _

set_option maxRecDepth 100000 in
set_option maxHeartbeats 2000000 in
theorem inverted_any (p : Nat → Bool) (w : World) :
    Calls Tryd.prog 127 #[.agg (setC p).toArray] w fun e w' => e = .returned (.agg (setC (notP p)).toArray) ∧ Below w.heap.size w w' := by
  have HQ0 : Hid (SetIn ((w.alloc (.cells (setC p).toArray 138)).alloc (.cells #[.int .u8 0, .int .u8 0, .int .u8 0, .int .u8 0, .int .u8 0, .int .u8 0, .int .u8 0, .int .u8 0, .int .u8 0, .int .u8 0, .int .u8 0, .int .u8 0, .int .u8 0, .int .u8 0, .int .u8 0, .int .u8 0, .int .u8 0, .int .u8 0, .int .u8 0, .int .u8 0, .int .u8 0, .int .u8 0, .int .u8 0, .int .u8 0, .int .u8 0, .int .u8 0, .int .u8 0, .int .u8 0, .int .u8 0, .int .u8 0, .int .u8 0, .int .u8 0] 138)) w.heap.size 138 (mixP p (notP p) 0)) := by
    have h : SetIn (w.alloc (.cells (setC p).toArray 138)) w.heap.size 138 p := heap_alloc_new w _
    exact (h.keep (Below.heap_alloc _ _ _ (by simp))).congr fun n _ => by unfold mixP; rw [if_neg (by omega)]
  have HZ0 : Hid (SetIn ((w.alloc (.cells (setC p).toArray 138)).alloc (.cells #[.int .u8 0, .int .u8 0, .int .u8 0, .int .u8 0, .int .u8 0, .int .u8 0, .int .u8 0, .int .u8 0, .int .u8 0, .int .u8 0, .int .u8 0, .int .u8 0, .int .u8 0, .int .u8 0, .int .u8 0, .int .u8 0, .int .u8 0, .int .u8 0, .int .u8 0, .int .u8 0, .int .u8 0, .int .u8 0, .int .u8 0, .int .u8 0, .int .u8 0, .int .u8 0, .int .u8 0, .int .u8 0, .int .u8 0, .int .u8 0, .int .u8 0, .int .u8 0] 138)) (w.heap.size + 1) 138 noP) := by
    have h := zero_in (w.alloc (.cells (setC p).toArray 138)) 138
    rw [show (w.alloc (.cells (setC p).toArray 138)).heap.size = w.heap.size + 1 by simp] at h
    exact h
  have HB0 := Lib.hid (((Below.refl w.heap.size w).alloc (Nat.le_refl _) (.cells (setC p).toArray 138)).alloc (by simp) (.cells #[.int .u8 0, .int .u8 0, .int .u8 0, .int .u8 0, .int .u8 0, .int .u8 0, .int .u8 0, .int .u8 0, .int .u8 0, .int .u8 0, .int .u8 0, .int .u8 0, .int .u8 0, .int .u8 0, .int .u8 0, .int .u8 0, .int .u8 0, .int .u8 0, .int .u8 0, .int .u8 0, .int .u8 0, .int .u8 0, .int .u8 0, .int .u8 0, .int .u8 0, .int .u8 0, .int .u8 0, .int .u8 0, .int .u8 0, .int .u8 0, .int .u8 0, .int .u8 0] 138))
  generalize (setC p).toArray = cs at HQ0 HZ0 HB0 ⊢
  go_enter Tryd.func127, Tryd.ntmps127
  go_wp2_with fail
  generalize (w.alloc (.cells cs 138)).alloc (.cells #[.int .u8 0, .int .u8 0, .int .u8 0, .int .u8 0, .int .u8 0, .int .u8 0, .int .u8 0, .int .u8 0, .int .u8 0, .int .u8 0, .int .u8 0, .int .u8 0, .int .u8 0, .int .u8 0, .int .u8 0, .int .u8 0, .int .u8 0, .int .u8 0, .int .u8 0, .int .u8 0, .int .u8 0, .int .u8 0, .int .u8 0, .int .u8 0, .int .u8 0, .int .u8 0, .int .u8 0, .int .u8 0, .int .u8 0, .int .u8 0, .int .u8 0, .int .u8 0] 138) = w1 at HQ0 HZ0 HB0
  go_loopw [4] (fun kv wr => ∃ k : Nat, k ≤ 32 ∧ kv = .int .i64 k ∧ Hid (SetIn wr w.heap.size 138 (mixP p (notP p) k)) ∧ Hid (SetIn wr (w.heap.size + 1) 138 noP) ∧ Hid (Below w.heap.size w wr)) (fun kv _ => 32 - (intOf kv).toNat)
  case atStart => exact ⟨0, by omega, rfl, HQ0.out, HZ0.out, HB0.out⟩
  case round =>
    clear HQ0 HZ0 HB0
    obtain ⟨k, hk, rfl, HP, HZ, HB⟩ := hrel
    by_cases hkl : k < 32
    · have q2 := HP.out.cell k hkl
      have qf := HP.out.free k
      rw [mix_byte, if_neg (by omega)] at q2
      have HS := Lib.hid (HP.out.mix hkl)
      have HNT := Lib.hid (not_byte p k)
      have hv := byteOf_lt p k
      generalize byteOf p k = v at q2 HNT hv
      go_wp2_with fail
      rw [show (if IntKind.u8.signed = true then (-1 : Int) else IntKind.u8.max) = 255 from rfl, HNT.out]
      exact ⟨⟨k + 1, by omega, by go_num, HS.out, HZ.out.keep (Below.heap_setCell _ _ _ _ (by show w.heap.size + 1 ≠ w.heap.size; omega)), HB.out.setCell (p := ⟨w.heap.size, k, none⟩) (Nat.le_refl _) _⟩, by simp [intOf]; try omega⟩
    · obtain rfl : k = 32 := by omega
      have HI : Hid (SetIn wr w.heap.size 138 (notP p)) := HP.out.congr fun n hn => by unfold mixP; rw [if_pos (by omega)]
      go_wp2_with (first
        | (refine wpList_load_row rfl 138 (.tmp 1) rfl w.heap.size rfl 138 (setC (notP p)).toArray (0, 0) _ HI.out Tryd.underlying138 rfl (by rw [set_size, setC_size]) ?_)
        | (refine wpList_store_row rfl 138 (.tmp 2) (.tmp 14) rfl (w.heap.size + 1) (setC (notP p)).toArray rfl rfl 138 (setC noP).toArray HZ.out (by rw [set_size, setC_size]) (by rw [setC_size, setC_size]) (setC_one _) ?_))
      exact bodyPost_ret (v := .agg (setC (notP p)).toArray) (res_set Tryd.results127 _ _ (w.heap.size + 1) 138 (notP p) rfl (HZ.out.row (notP p))) rfl ⟨rfl, below_setRow HB.out (Nat.le_succ _) _⟩

/-- The kind that a small letter names; -1: none. -/
def kindL (n : Int) : Int := if n = 115 then 2 else if n = 100 then 3 else if n = 108 then 4 else if n = 99 then 1 else if n = 109 then 5 else if n = 117 then 0 else -1
/-- The bytes of a kind. -/
def kindP (k : Int) : Nat → Bool := fun b => if k = 0 then decide (65 ≤ b ∧ b ≤ 90) else decide (clsN (b : Int) = k)
/-- A set that is filled byte by byte. -/
def uptoP (p : Nat → Bool) (k : Nat) : Nat → Bool := fun n => decide (n < k) && p n
theorem upto_zero (p : Nat → Bool) : ∀ n, n < 256 → noP n = uptoP p 0 n := fun n _ => by unfold noP uptoP; simp
theorem upto_in (p : Nat → Bool) (k : Nat) (h : p k = true) : ∀ n, n < 256 → addP (uptoP p k) k n = uptoP p (k + 1) n := fun n _ => by
  unfold addP uptoP
  by_cases hn : n = k
  · subst hn; simp [h]
  · have h1 : (n == k) = false := by simpa using hn
    rw [h1, Bool.false_or]
    congr 1
    rw [decide_eq_decide]
    omega
theorem upto_out (p : Nat → Bool) (k : Nat) (h : p k = false) : ∀ n, n < 256 → uptoP p k n = uptoP p (k + 1) n := fun n _ => by
  unfold uptoP
  by_cases hn : n = k
  · subst hn; simp [h]
  · congr 1
    rw [decide_eq_decide]
    omega
theorem upto_all (p : Nat → Bool) : ∀ n, n < 256 → uptoP p 256 n = p n := fun n h => by unfold uptoP; simp [h]
theorem res_set_tmp {fn : Func} {p u : Tmp} (h : fn.results = #[.cell p 138, .tmp u]) (tmps : Array Value) (w : World) (g : Nat) (t : TypeId) (q : Nat → Bool) (v : Value) (hp : tmps.getD p undef = .pointer (some ⟨g, 0, none⟩)) (hu : tmps.getD u undef = v) (hs : SetIn w g t q) :
    (results fn tmps).run Tryd.prog w = .ok (.tuple #[.agg (setC q).toArray, v]) w := by
  rw [results_cell_tmp h, hp, hu]
  have hl := run_loadVar_row (P := Tryd.prog) w g t 138 (setC q).toArray (0, 0) _ hs Tryd.underlying138 rfl (by rw [set_size, setC_size])
  simp [asAddr, Result.andThen, hl]

set_option maxRecDepth 100000 in
set_option maxHeartbeats 8000000 in
theorem classSet_115 (l : Nat) (w : World) (hl : l < 256) (hs : bits BinOp.or IntKind.u8 (l : Int) 32 = 115) :
    Calls Tryd.prog 136 #[.int .u8 l] w fun e w' => e = .returned (.tuple #[.agg (setC (if l = 115 then kindP 2 else notP (kindP 2))).toArray, .bool true]) ∧ Below w.heap.size w w' := by
  go_enter Tryd.func136, Tryd.ntmps136
  go_wp2_with fail
  have HZ1 : Hid (SetIn ((w.alloc (.cells #[.int .u8 0, .int .u8 0, .int .u8 0, .int .u8 0, .int .u8 0, .int .u8 0, .int .u8 0, .int .u8 0, .int .u8 0, .int .u8 0, .int .u8 0, .int .u8 0, .int .u8 0, .int .u8 0, .int .u8 0, .int .u8 0, .int .u8 0, .int .u8 0, .int .u8 0, .int .u8 0, .int .u8 0, .int .u8 0, .int .u8 0, .int .u8 0, .int .u8 0, .int .u8 0, .int .u8 0, .int .u8 0, .int .u8 0, .int .u8 0, .int .u8 0, .int .u8 0] 138)).alloc (.cells #[.int .u8 0, .int .u8 0, .int .u8 0, .int .u8 0, .int .u8 0, .int .u8 0, .int .u8 0, .int .u8 0, .int .u8 0, .int .u8 0, .int .u8 0, .int .u8 0, .int .u8 0, .int .u8 0, .int .u8 0, .int .u8 0, .int .u8 0, .int .u8 0, .int .u8 0, .int .u8 0, .int .u8 0, .int .u8 0, .int .u8 0, .int .u8 0, .int .u8 0, .int .u8 0, .int .u8 0, .int .u8 0, .int .u8 0, .int .u8 0, .int .u8 0, .int .u8 0] 138)) w.heap.size 138 noP) := (zero_in w 138).keep (Below.heap_alloc _ _ _ (by simp))
  have HZ2 : Hid (SetIn ((w.alloc (.cells #[.int .u8 0, .int .u8 0, .int .u8 0, .int .u8 0, .int .u8 0, .int .u8 0, .int .u8 0, .int .u8 0, .int .u8 0, .int .u8 0, .int .u8 0, .int .u8 0, .int .u8 0, .int .u8 0, .int .u8 0, .int .u8 0, .int .u8 0, .int .u8 0, .int .u8 0, .int .u8 0, .int .u8 0, .int .u8 0, .int .u8 0, .int .u8 0, .int .u8 0, .int .u8 0, .int .u8 0, .int .u8 0, .int .u8 0, .int .u8 0, .int .u8 0, .int .u8 0] 138)).alloc (.cells #[.int .u8 0, .int .u8 0, .int .u8 0, .int .u8 0, .int .u8 0, .int .u8 0, .int .u8 0, .int .u8 0, .int .u8 0, .int .u8 0, .int .u8 0, .int .u8 0, .int .u8 0, .int .u8 0, .int .u8 0, .int .u8 0, .int .u8 0, .int .u8 0, .int .u8 0, .int .u8 0, .int .u8 0, .int .u8 0, .int .u8 0, .int .u8 0, .int .u8 0, .int .u8 0, .int .u8 0, .int .u8 0, .int .u8 0, .int .u8 0, .int .u8 0, .int .u8 0] 138)) (w.heap.size + 1) 138 (uptoP (kindP 2) 0)) := by
    have h := zero_in (w.alloc (.cells #[.int .u8 0, .int .u8 0, .int .u8 0, .int .u8 0, .int .u8 0, .int .u8 0, .int .u8 0, .int .u8 0, .int .u8 0, .int .u8 0, .int .u8 0, .int .u8 0, .int .u8 0, .int .u8 0, .int .u8 0, .int .u8 0, .int .u8 0, .int .u8 0, .int .u8 0, .int .u8 0, .int .u8 0, .int .u8 0, .int .u8 0, .int .u8 0, .int .u8 0, .int .u8 0, .int .u8 0, .int .u8 0, .int .u8 0, .int .u8 0, .int .u8 0, .int .u8 0] 138)) 138
    rw [show (w.alloc (.cells #[.int .u8 0, .int .u8 0, .int .u8 0, .int .u8 0, .int .u8 0, .int .u8 0, .int .u8 0, .int .u8 0, .int .u8 0, .int .u8 0, .int .u8 0, .int .u8 0, .int .u8 0, .int .u8 0, .int .u8 0, .int .u8 0, .int .u8 0, .int .u8 0, .int .u8 0, .int .u8 0, .int .u8 0, .int .u8 0, .int .u8 0, .int .u8 0, .int .u8 0, .int .u8 0, .int .u8 0, .int .u8 0, .int .u8 0, .int .u8 0, .int .u8 0, .int .u8 0] 138)).heap.size = w.heap.size + 1 by simp] at h
    exact h.congr (upto_zero _)
  have HB0 := Lib.hid (((Below.refl w.heap.size w).alloc (Nat.le_refl _) (.cells #[.int .u8 0, .int .u8 0, .int .u8 0, .int .u8 0, .int .u8 0, .int .u8 0, .int .u8 0, .int .u8 0, .int .u8 0, .int .u8 0, .int .u8 0, .int .u8 0, .int .u8 0, .int .u8 0, .int .u8 0, .int .u8 0, .int .u8 0, .int .u8 0, .int .u8 0, .int .u8 0, .int .u8 0, .int .u8 0, .int .u8 0, .int .u8 0, .int .u8 0, .int .u8 0, .int .u8 0, .int .u8 0, .int .u8 0, .int .u8 0, .int .u8 0, .int .u8 0] 138)).alloc (by simp) (.cells #[.int .u8 0, .int .u8 0, .int .u8 0, .int .u8 0, .int .u8 0, .int .u8 0, .int .u8 0, .int .u8 0, .int .u8 0, .int .u8 0, .int .u8 0, .int .u8 0, .int .u8 0, .int .u8 0, .int .u8 0, .int .u8 0, .int .u8 0, .int .u8 0, .int .u8 0, .int .u8 0, .int .u8 0, .int .u8 0, .int .u8 0, .int .u8 0, .int .u8 0, .int .u8 0, .int .u8 0, .int .u8 0, .int .u8 0, .int .u8 0, .int .u8 0, .int .u8 0] 138))
  generalize (w.alloc (.cells #[.int .u8 0, .int .u8 0, .int .u8 0, .int .u8 0, .int .u8 0, .int .u8 0, .int .u8 0, .int .u8 0, .int .u8 0, .int .u8 0, .int .u8 0, .int .u8 0, .int .u8 0, .int .u8 0, .int .u8 0, .int .u8 0, .int .u8 0, .int .u8 0, .int .u8 0, .int .u8 0, .int .u8 0, .int .u8 0, .int .u8 0, .int .u8 0, .int .u8 0, .int .u8 0, .int .u8 0, .int .u8 0, .int .u8 0, .int .u8 0, .int .u8 0, .int .u8 0] 138)).alloc (.cells #[.int .u8 0, .int .u8 0, .int .u8 0, .int .u8 0, .int .u8 0, .int .u8 0, .int .u8 0, .int .u8 0, .int .u8 0, .int .u8 0, .int .u8 0, .int .u8 0, .int .u8 0, .int .u8 0, .int .u8 0, .int .u8 0, .int .u8 0, .int .u8 0, .int .u8 0, .int .u8 0, .int .u8 0, .int .u8 0, .int .u8 0, .int .u8 0, .int .u8 0, .int .u8 0, .int .u8 0, .int .u8 0, .int .u8 0, .int .u8 0, .int .u8 0, .int .u8 0] 138) = w1 at HZ1 HZ2 HB0
  go_loopw [25] (fun kv wr => ∃ k : Nat, k ≤ 256 ∧ kv = .int .i64 k ∧ Hid (SetIn wr w.heap.size 138 noP) ∧ Hid (SetIn wr (w.heap.size + 1) 138 (uptoP (kindP 2) k)) ∧ Hid (Below w.heap.size w wr)) (fun kv _ => 256 - (intOf kv).toNat)
  case atStart => exact ⟨0, by omega, rfl, HZ1.out, HZ2.out, HB0.out⟩
  case round =>
    clear HZ1 HZ2 HB0
    obtain ⟨k, hk, rfl, HZ, HP, HB⟩ := hrel
    by_cases hkl : k < 256
    · have ec : IntKind.u8.wrap (k : Int) = (k : Int) := by rw [IntKind.wrap_u8]; omega
      by_cases hp : (kindP 2) k = true
      · have hcl : (clsN (k : Int) == 2) = true := by have h := hp; unfold kindP at h; rw [if_neg (by decide)] at h; simpa using h
        go_wp2_with fail
        refine (of_any (k : Int) _ (by omega) (by omega)).mono ?_
        rintro e w' ⟨rfl, rfl⟩
        go_wp2_with fail
        refine (add_any _ _ k _ _ (by exact HP.out) hkl).mono ?_
        rintro e w2 ⟨rfl, hs2, ho2⟩
        have HP2 := Lib.hid (hs2.congr (upto_in _ k hp))
        have HZ2 := Lib.hid (HZ.out.keep (ho2.block _ HZ.out.lt (by omega)))
        have HB2 := Lib.hid (HB.out.trans (ho2.below (B := w.heap.size) (Nat.le_succ _) HB.out.size))
        clear hs2 ho2
        go_wp2_with fail
        exact ⟨⟨k + 1, by omega, by go_num, HZ2.out, HP2.out, HB2.out⟩, by simp [intOf]; try omega⟩

      · have hp' : (kindP 2) k = false := by simpa using hp
        have hcl : (clsN (k : Int) == 2) = false := by have h := hp'; unfold kindP at h; rw [if_neg (by decide)] at h; simpa using h
        have HP2 := Lib.hid (HP.out.congr (upto_out _ k hp'))
        go_wp2_with fail
        refine (of_any (k : Int) _ (by omega) (by omega)).mono ?_
        rintro e w' ⟨rfl, rfl⟩
        go_wp2_with fail
        exact ⟨⟨k + 1, by omega, by go_num, HZ.out, HP2.out, HB.out⟩, by simp [intOf]; try omega⟩
    · obtain rfl : k = 256 := by omega
      have HP2 := Lib.hid (HP.out.congr (upto_all _))
      by_cases hls : l = 115
      · subst hls
        go_wp2_with (first
          | (refine wpList_load_row rfl 138 (.tmp 6) rfl (w.heap.size + 1) rfl 138 (setC (kindP 2)).toArray (0, 0) _ HP2.out Tryd.underlying138 rfl (by rw [set_size, setC_size]) ?_)
          | (refine wpList_store_row rfl 138 (.tmp 2) (.tmp 58) rfl (w.heap.size) (setC (kindP 2)).toArray rfl rfl 138 (setC noP).toArray HZ.out (by rw [set_size, setC_size]) (by rw [setC_size, setC_size]) (setC_one _) ?_))
        exact bodyPost_ret (v := .tuple #[.agg (setC (kindP 2)).toArray, .bool true]) (res_set_tmp Tryd.results136 _ _ w.heap.size 138 (kindP 2) _ rfl rfl (HZ.out.row (kindP 2))) rfl ⟨rfl, below_setRow HB.out (Nat.le_refl _) _⟩
      · have hne : ((l : Int) != 115) = true := bne_iff_ne.2 (by omega)
        go_wp2_with (refine wpList_load_row rfl 138 (.tmp 6) rfl (w.heap.size + 1) rfl 138 (setC (kindP 2)).toArray (0, 0) _ HP2.out Tryd.underlying138 rfl (by rw [set_size, setC_size]) ?_)
        refine (inverted_any (kindP 2) _).mono ?_
        rintro e w2 ⟨rfl, hb2⟩
        have HP3 := Lib.hid (HP2.out.keep (hb2.block _ HP2.out.lt))
        have HZ3 := Lib.hid (HZ.out.keep (hb2.block _ HZ.out.lt))
        have HB3 := Lib.hid (HB.out.trans (hb2.mono HB.out.size))
        clear hb2
        go_upto_region 26 with (refine wpList_store_row rfl 138 (.tmp 6) (.tmp 57) rfl (w.heap.size + 1) (setC (notP (kindP 2))).toArray rfl rfl 138 (setC (kindP 2)).toArray HP3.out (by rw [set_size, setC_size]) (by rw [setC_size, setC_size]) (setC_one _) ?_)
        have HP4 := Lib.hid (HP3.out.row (notP (kindP 2)))
        have HZ4 := Lib.hid (HZ3.out.keep (w' := w2.setRow (w.heap.size + 1) (setC (notP (kindP 2))).toArray) (setRow_other _ _ _ _ (by omega)))
        have HB4 := Lib.hid (below_setRow HB3.out (Nat.le_succ w.heap.size) (setC (notP (kindP 2))).toArray)
        generalize w2.setRow (w.heap.size + 1) (setC (notP (kindP 2))).toArray = w4 at HP4 HZ4 HB4
        go_wp2_with (first
          | (refine wpList_load_row rfl 138 (.tmp 6) rfl (w.heap.size + 1) rfl 138 (setC (notP (kindP 2))).toArray (0, 0) _ HP4.out Tryd.underlying138 rfl (by rw [set_size, setC_size]) ?_)
          | (refine wpList_store_row rfl 138 (.tmp 2) (.tmp 58) rfl (w.heap.size) (setC (notP (kindP 2))).toArray rfl rfl 138 (setC noP).toArray HZ4.out (by rw [set_size, setC_size]) (by rw [setC_size, setC_size]) (setC_one _) ?_))
        exact bodyPost_ret (v := .tuple #[.agg (setC (notP (kindP 2))).toArray, .bool true]) (res_set_tmp Tryd.results136 _ _ w.heap.size 138 (notP (kindP 2)) _ rfl rfl (HZ4.out.row (notP (kindP 2)))) rfl ⟨by first | rfl | rw [if_neg hls], below_setRow HB4.out (Nat.le_refl _) _⟩

set_option maxRecDepth 100000 in
set_option maxHeartbeats 8000000 in
theorem classSet_100 (l : Nat) (w : World) (hl : l < 256) (hs : bits BinOp.or IntKind.u8 (l : Int) 32 = 100) :
    Calls Tryd.prog 136 #[.int .u8 l] w fun e w' => e = .returned (.tuple #[.agg (setC (if l = 100 then kindP 3 else notP (kindP 3))).toArray, .bool true]) ∧ Below w.heap.size w w' := by
  go_enter Tryd.func136, Tryd.ntmps136
  go_wp2_with fail
  have HZ1 : Hid (SetIn ((w.alloc (.cells #[.int .u8 0, .int .u8 0, .int .u8 0, .int .u8 0, .int .u8 0, .int .u8 0, .int .u8 0, .int .u8 0, .int .u8 0, .int .u8 0, .int .u8 0, .int .u8 0, .int .u8 0, .int .u8 0, .int .u8 0, .int .u8 0, .int .u8 0, .int .u8 0, .int .u8 0, .int .u8 0, .int .u8 0, .int .u8 0, .int .u8 0, .int .u8 0, .int .u8 0, .int .u8 0, .int .u8 0, .int .u8 0, .int .u8 0, .int .u8 0, .int .u8 0, .int .u8 0] 138)).alloc (.cells #[.int .u8 0, .int .u8 0, .int .u8 0, .int .u8 0, .int .u8 0, .int .u8 0, .int .u8 0, .int .u8 0, .int .u8 0, .int .u8 0, .int .u8 0, .int .u8 0, .int .u8 0, .int .u8 0, .int .u8 0, .int .u8 0, .int .u8 0, .int .u8 0, .int .u8 0, .int .u8 0, .int .u8 0, .int .u8 0, .int .u8 0, .int .u8 0, .int .u8 0, .int .u8 0, .int .u8 0, .int .u8 0, .int .u8 0, .int .u8 0, .int .u8 0, .int .u8 0] 138)) w.heap.size 138 noP) := (zero_in w 138).keep (Below.heap_alloc _ _ _ (by simp))
  have HZ2 : Hid (SetIn ((w.alloc (.cells #[.int .u8 0, .int .u8 0, .int .u8 0, .int .u8 0, .int .u8 0, .int .u8 0, .int .u8 0, .int .u8 0, .int .u8 0, .int .u8 0, .int .u8 0, .int .u8 0, .int .u8 0, .int .u8 0, .int .u8 0, .int .u8 0, .int .u8 0, .int .u8 0, .int .u8 0, .int .u8 0, .int .u8 0, .int .u8 0, .int .u8 0, .int .u8 0, .int .u8 0, .int .u8 0, .int .u8 0, .int .u8 0, .int .u8 0, .int .u8 0, .int .u8 0, .int .u8 0] 138)).alloc (.cells #[.int .u8 0, .int .u8 0, .int .u8 0, .int .u8 0, .int .u8 0, .int .u8 0, .int .u8 0, .int .u8 0, .int .u8 0, .int .u8 0, .int .u8 0, .int .u8 0, .int .u8 0, .int .u8 0, .int .u8 0, .int .u8 0, .int .u8 0, .int .u8 0, .int .u8 0, .int .u8 0, .int .u8 0, .int .u8 0, .int .u8 0, .int .u8 0, .int .u8 0, .int .u8 0, .int .u8 0, .int .u8 0, .int .u8 0, .int .u8 0, .int .u8 0, .int .u8 0] 138)) (w.heap.size + 1) 138 (uptoP (kindP 3) 0)) := by
    have h := zero_in (w.alloc (.cells #[.int .u8 0, .int .u8 0, .int .u8 0, .int .u8 0, .int .u8 0, .int .u8 0, .int .u8 0, .int .u8 0, .int .u8 0, .int .u8 0, .int .u8 0, .int .u8 0, .int .u8 0, .int .u8 0, .int .u8 0, .int .u8 0, .int .u8 0, .int .u8 0, .int .u8 0, .int .u8 0, .int .u8 0, .int .u8 0, .int .u8 0, .int .u8 0, .int .u8 0, .int .u8 0, .int .u8 0, .int .u8 0, .int .u8 0, .int .u8 0, .int .u8 0, .int .u8 0] 138)) 138
    rw [show (w.alloc (.cells #[.int .u8 0, .int .u8 0, .int .u8 0, .int .u8 0, .int .u8 0, .int .u8 0, .int .u8 0, .int .u8 0, .int .u8 0, .int .u8 0, .int .u8 0, .int .u8 0, .int .u8 0, .int .u8 0, .int .u8 0, .int .u8 0, .int .u8 0, .int .u8 0, .int .u8 0, .int .u8 0, .int .u8 0, .int .u8 0, .int .u8 0, .int .u8 0, .int .u8 0, .int .u8 0, .int .u8 0, .int .u8 0, .int .u8 0, .int .u8 0, .int .u8 0, .int .u8 0] 138)).heap.size = w.heap.size + 1 by simp] at h
    exact h.congr (upto_zero _)
  have HB0 := Lib.hid (((Below.refl w.heap.size w).alloc (Nat.le_refl _) (.cells #[.int .u8 0, .int .u8 0, .int .u8 0, .int .u8 0, .int .u8 0, .int .u8 0, .int .u8 0, .int .u8 0, .int .u8 0, .int .u8 0, .int .u8 0, .int .u8 0, .int .u8 0, .int .u8 0, .int .u8 0, .int .u8 0, .int .u8 0, .int .u8 0, .int .u8 0, .int .u8 0, .int .u8 0, .int .u8 0, .int .u8 0, .int .u8 0, .int .u8 0, .int .u8 0, .int .u8 0, .int .u8 0, .int .u8 0, .int .u8 0, .int .u8 0, .int .u8 0] 138)).alloc (by simp) (.cells #[.int .u8 0, .int .u8 0, .int .u8 0, .int .u8 0, .int .u8 0, .int .u8 0, .int .u8 0, .int .u8 0, .int .u8 0, .int .u8 0, .int .u8 0, .int .u8 0, .int .u8 0, .int .u8 0, .int .u8 0, .int .u8 0, .int .u8 0, .int .u8 0, .int .u8 0, .int .u8 0, .int .u8 0, .int .u8 0, .int .u8 0, .int .u8 0, .int .u8 0, .int .u8 0, .int .u8 0, .int .u8 0, .int .u8 0, .int .u8 0, .int .u8 0, .int .u8 0] 138))
  generalize (w.alloc (.cells #[.int .u8 0, .int .u8 0, .int .u8 0, .int .u8 0, .int .u8 0, .int .u8 0, .int .u8 0, .int .u8 0, .int .u8 0, .int .u8 0, .int .u8 0, .int .u8 0, .int .u8 0, .int .u8 0, .int .u8 0, .int .u8 0, .int .u8 0, .int .u8 0, .int .u8 0, .int .u8 0, .int .u8 0, .int .u8 0, .int .u8 0, .int .u8 0, .int .u8 0, .int .u8 0, .int .u8 0, .int .u8 0, .int .u8 0, .int .u8 0, .int .u8 0, .int .u8 0] 138)).alloc (.cells #[.int .u8 0, .int .u8 0, .int .u8 0, .int .u8 0, .int .u8 0, .int .u8 0, .int .u8 0, .int .u8 0, .int .u8 0, .int .u8 0, .int .u8 0, .int .u8 0, .int .u8 0, .int .u8 0, .int .u8 0, .int .u8 0, .int .u8 0, .int .u8 0, .int .u8 0, .int .u8 0, .int .u8 0, .int .u8 0, .int .u8 0, .int .u8 0, .int .u8 0, .int .u8 0, .int .u8 0, .int .u8 0, .int .u8 0, .int .u8 0, .int .u8 0, .int .u8 0] 138) = w1 at HZ1 HZ2 HB0
  go_loopw [25] (fun kv wr => ∃ k : Nat, k ≤ 256 ∧ kv = .int .i64 k ∧ Hid (SetIn wr w.heap.size 138 noP) ∧ Hid (SetIn wr (w.heap.size + 1) 138 (uptoP (kindP 3) k)) ∧ Hid (Below w.heap.size w wr)) (fun kv _ => 256 - (intOf kv).toNat)
  case atStart => exact ⟨0, by omega, rfl, HZ1.out, HZ2.out, HB0.out⟩
  case round =>
    clear HZ1 HZ2 HB0
    obtain ⟨k, hk, rfl, HZ, HP, HB⟩ := hrel
    by_cases hkl : k < 256
    · have ec : IntKind.u8.wrap (k : Int) = (k : Int) := by rw [IntKind.wrap_u8]; omega
      by_cases hp : (kindP 3) k = true
      · have hcl : (clsN (k : Int) == 3) = true := by have h := hp; unfold kindP at h; rw [if_neg (by decide)] at h; simpa using h
        go_wp2_with fail
        refine (of_any (k : Int) _ (by omega) (by omega)).mono ?_
        rintro e w' ⟨rfl, rfl⟩
        go_wp2_with fail
        refine (add_any _ _ k _ _ (by exact HP.out) hkl).mono ?_
        rintro e w2 ⟨rfl, hs2, ho2⟩
        have HP2 := Lib.hid (hs2.congr (upto_in _ k hp))
        have HZ2 := Lib.hid (HZ.out.keep (ho2.block _ HZ.out.lt (by omega)))
        have HB2 := Lib.hid (HB.out.trans (ho2.below (B := w.heap.size) (Nat.le_succ _) HB.out.size))
        clear hs2 ho2
        go_wp2_with fail
        exact ⟨⟨k + 1, by omega, by go_num, HZ2.out, HP2.out, HB2.out⟩, by simp [intOf]; try omega⟩

      · have hp' : (kindP 3) k = false := by simpa using hp
        have hcl : (clsN (k : Int) == 3) = false := by have h := hp'; unfold kindP at h; rw [if_neg (by decide)] at h; simpa using h
        have HP2 := Lib.hid (HP.out.congr (upto_out _ k hp'))
        go_wp2_with fail
        refine (of_any (k : Int) _ (by omega) (by omega)).mono ?_
        rintro e w' ⟨rfl, rfl⟩
        go_wp2_with fail
        exact ⟨⟨k + 1, by omega, by go_num, HZ.out, HP2.out, HB.out⟩, by simp [intOf]; try omega⟩
    · obtain rfl : k = 256 := by omega
      have HP2 := Lib.hid (HP.out.congr (upto_all _))
      by_cases hls : l = 100
      · subst hls
        go_wp2_with (first
          | (refine wpList_load_row rfl 138 (.tmp 6) rfl (w.heap.size + 1) rfl 138 (setC (kindP 3)).toArray (0, 0) _ HP2.out Tryd.underlying138 rfl (by rw [set_size, setC_size]) ?_)
          | (refine wpList_store_row rfl 138 (.tmp 2) (.tmp 58) rfl (w.heap.size) (setC (kindP 3)).toArray rfl rfl 138 (setC noP).toArray HZ.out (by rw [set_size, setC_size]) (by rw [setC_size, setC_size]) (setC_one _) ?_))
        exact bodyPost_ret (v := .tuple #[.agg (setC (kindP 3)).toArray, .bool true]) (res_set_tmp Tryd.results136 _ _ w.heap.size 138 (kindP 3) _ rfl rfl (HZ.out.row (kindP 3))) rfl ⟨rfl, below_setRow HB.out (Nat.le_refl _) _⟩
      · have hne : ((l : Int) != 100) = true := bne_iff_ne.2 (by omega)
        go_wp2_with (refine wpList_load_row rfl 138 (.tmp 6) rfl (w.heap.size + 1) rfl 138 (setC (kindP 3)).toArray (0, 0) _ HP2.out Tryd.underlying138 rfl (by rw [set_size, setC_size]) ?_)
        refine (inverted_any (kindP 3) _).mono ?_
        rintro e w2 ⟨rfl, hb2⟩
        have HP3 := Lib.hid (HP2.out.keep (hb2.block _ HP2.out.lt))
        have HZ3 := Lib.hid (HZ.out.keep (hb2.block _ HZ.out.lt))
        have HB3 := Lib.hid (HB.out.trans (hb2.mono HB.out.size))
        clear hb2
        go_upto_region 26 with (refine wpList_store_row rfl 138 (.tmp 6) (.tmp 57) rfl (w.heap.size + 1) (setC (notP (kindP 3))).toArray rfl rfl 138 (setC (kindP 3)).toArray HP3.out (by rw [set_size, setC_size]) (by rw [setC_size, setC_size]) (setC_one _) ?_)
        have HP4 := Lib.hid (HP3.out.row (notP (kindP 3)))
        have HZ4 := Lib.hid (HZ3.out.keep (w' := w2.setRow (w.heap.size + 1) (setC (notP (kindP 3))).toArray) (setRow_other _ _ _ _ (by omega)))
        have HB4 := Lib.hid (below_setRow HB3.out (Nat.le_succ w.heap.size) (setC (notP (kindP 3))).toArray)
        generalize w2.setRow (w.heap.size + 1) (setC (notP (kindP 3))).toArray = w4 at HP4 HZ4 HB4
        go_wp2_with (first
          | (refine wpList_load_row rfl 138 (.tmp 6) rfl (w.heap.size + 1) rfl 138 (setC (notP (kindP 3))).toArray (0, 0) _ HP4.out Tryd.underlying138 rfl (by rw [set_size, setC_size]) ?_)
          | (refine wpList_store_row rfl 138 (.tmp 2) (.tmp 58) rfl (w.heap.size) (setC (notP (kindP 3))).toArray rfl rfl 138 (setC noP).toArray HZ4.out (by rw [set_size, setC_size]) (by rw [setC_size, setC_size]) (setC_one _) ?_))
        exact bodyPost_ret (v := .tuple #[.agg (setC (notP (kindP 3))).toArray, .bool true]) (res_set_tmp Tryd.results136 _ _ w.heap.size 138 (notP (kindP 3)) _ rfl rfl (HZ4.out.row (notP (kindP 3)))) rfl ⟨by first | rfl | rw [if_neg hls], below_setRow HB4.out (Nat.le_refl _) _⟩

set_option maxRecDepth 100000 in
set_option maxHeartbeats 8000000 in
theorem classSet_108 (l : Nat) (w : World) (hl : l < 256) (hs : bits BinOp.or IntKind.u8 (l : Int) 32 = 108) :
    Calls Tryd.prog 136 #[.int .u8 l] w fun e w' => e = .returned (.tuple #[.agg (setC (if l = 108 then kindP 4 else notP (kindP 4))).toArray, .bool true]) ∧ Below w.heap.size w w' := by
  go_enter Tryd.func136, Tryd.ntmps136
  go_wp2_with fail
  have HZ1 : Hid (SetIn ((w.alloc (.cells #[.int .u8 0, .int .u8 0, .int .u8 0, .int .u8 0, .int .u8 0, .int .u8 0, .int .u8 0, .int .u8 0, .int .u8 0, .int .u8 0, .int .u8 0, .int .u8 0, .int .u8 0, .int .u8 0, .int .u8 0, .int .u8 0, .int .u8 0, .int .u8 0, .int .u8 0, .int .u8 0, .int .u8 0, .int .u8 0, .int .u8 0, .int .u8 0, .int .u8 0, .int .u8 0, .int .u8 0, .int .u8 0, .int .u8 0, .int .u8 0, .int .u8 0, .int .u8 0] 138)).alloc (.cells #[.int .u8 0, .int .u8 0, .int .u8 0, .int .u8 0, .int .u8 0, .int .u8 0, .int .u8 0, .int .u8 0, .int .u8 0, .int .u8 0, .int .u8 0, .int .u8 0, .int .u8 0, .int .u8 0, .int .u8 0, .int .u8 0, .int .u8 0, .int .u8 0, .int .u8 0, .int .u8 0, .int .u8 0, .int .u8 0, .int .u8 0, .int .u8 0, .int .u8 0, .int .u8 0, .int .u8 0, .int .u8 0, .int .u8 0, .int .u8 0, .int .u8 0, .int .u8 0] 138)) w.heap.size 138 noP) := (zero_in w 138).keep (Below.heap_alloc _ _ _ (by simp))
  have HZ2 : Hid (SetIn ((w.alloc (.cells #[.int .u8 0, .int .u8 0, .int .u8 0, .int .u8 0, .int .u8 0, .int .u8 0, .int .u8 0, .int .u8 0, .int .u8 0, .int .u8 0, .int .u8 0, .int .u8 0, .int .u8 0, .int .u8 0, .int .u8 0, .int .u8 0, .int .u8 0, .int .u8 0, .int .u8 0, .int .u8 0, .int .u8 0, .int .u8 0, .int .u8 0, .int .u8 0, .int .u8 0, .int .u8 0, .int .u8 0, .int .u8 0, .int .u8 0, .int .u8 0, .int .u8 0, .int .u8 0] 138)).alloc (.cells #[.int .u8 0, .int .u8 0, .int .u8 0, .int .u8 0, .int .u8 0, .int .u8 0, .int .u8 0, .int .u8 0, .int .u8 0, .int .u8 0, .int .u8 0, .int .u8 0, .int .u8 0, .int .u8 0, .int .u8 0, .int .u8 0, .int .u8 0, .int .u8 0, .int .u8 0, .int .u8 0, .int .u8 0, .int .u8 0, .int .u8 0, .int .u8 0, .int .u8 0, .int .u8 0, .int .u8 0, .int .u8 0, .int .u8 0, .int .u8 0, .int .u8 0, .int .u8 0] 138)) (w.heap.size + 1) 138 (uptoP (kindP 4) 0)) := by
    have h := zero_in (w.alloc (.cells #[.int .u8 0, .int .u8 0, .int .u8 0, .int .u8 0, .int .u8 0, .int .u8 0, .int .u8 0, .int .u8 0, .int .u8 0, .int .u8 0, .int .u8 0, .int .u8 0, .int .u8 0, .int .u8 0, .int .u8 0, .int .u8 0, .int .u8 0, .int .u8 0, .int .u8 0, .int .u8 0, .int .u8 0, .int .u8 0, .int .u8 0, .int .u8 0, .int .u8 0, .int .u8 0, .int .u8 0, .int .u8 0, .int .u8 0, .int .u8 0, .int .u8 0, .int .u8 0] 138)) 138
    rw [show (w.alloc (.cells #[.int .u8 0, .int .u8 0, .int .u8 0, .int .u8 0, .int .u8 0, .int .u8 0, .int .u8 0, .int .u8 0, .int .u8 0, .int .u8 0, .int .u8 0, .int .u8 0, .int .u8 0, .int .u8 0, .int .u8 0, .int .u8 0, .int .u8 0, .int .u8 0, .int .u8 0, .int .u8 0, .int .u8 0, .int .u8 0, .int .u8 0, .int .u8 0, .int .u8 0, .int .u8 0, .int .u8 0, .int .u8 0, .int .u8 0, .int .u8 0, .int .u8 0, .int .u8 0] 138)).heap.size = w.heap.size + 1 by simp] at h
    exact h.congr (upto_zero _)
  have HB0 := Lib.hid (((Below.refl w.heap.size w).alloc (Nat.le_refl _) (.cells #[.int .u8 0, .int .u8 0, .int .u8 0, .int .u8 0, .int .u8 0, .int .u8 0, .int .u8 0, .int .u8 0, .int .u8 0, .int .u8 0, .int .u8 0, .int .u8 0, .int .u8 0, .int .u8 0, .int .u8 0, .int .u8 0, .int .u8 0, .int .u8 0, .int .u8 0, .int .u8 0, .int .u8 0, .int .u8 0, .int .u8 0, .int .u8 0, .int .u8 0, .int .u8 0, .int .u8 0, .int .u8 0, .int .u8 0, .int .u8 0, .int .u8 0, .int .u8 0] 138)).alloc (by simp) (.cells #[.int .u8 0, .int .u8 0, .int .u8 0, .int .u8 0, .int .u8 0, .int .u8 0, .int .u8 0, .int .u8 0, .int .u8 0, .int .u8 0, .int .u8 0, .int .u8 0, .int .u8 0, .int .u8 0, .int .u8 0, .int .u8 0, .int .u8 0, .int .u8 0, .int .u8 0, .int .u8 0, .int .u8 0, .int .u8 0, .int .u8 0, .int .u8 0, .int .u8 0, .int .u8 0, .int .u8 0, .int .u8 0, .int .u8 0, .int .u8 0, .int .u8 0, .int .u8 0] 138))
  generalize (w.alloc (.cells #[.int .u8 0, .int .u8 0, .int .u8 0, .int .u8 0, .int .u8 0, .int .u8 0, .int .u8 0, .int .u8 0, .int .u8 0, .int .u8 0, .int .u8 0, .int .u8 0, .int .u8 0, .int .u8 0, .int .u8 0, .int .u8 0, .int .u8 0, .int .u8 0, .int .u8 0, .int .u8 0, .int .u8 0, .int .u8 0, .int .u8 0, .int .u8 0, .int .u8 0, .int .u8 0, .int .u8 0, .int .u8 0, .int .u8 0, .int .u8 0, .int .u8 0, .int .u8 0] 138)).alloc (.cells #[.int .u8 0, .int .u8 0, .int .u8 0, .int .u8 0, .int .u8 0, .int .u8 0, .int .u8 0, .int .u8 0, .int .u8 0, .int .u8 0, .int .u8 0, .int .u8 0, .int .u8 0, .int .u8 0, .int .u8 0, .int .u8 0, .int .u8 0, .int .u8 0, .int .u8 0, .int .u8 0, .int .u8 0, .int .u8 0, .int .u8 0, .int .u8 0, .int .u8 0, .int .u8 0, .int .u8 0, .int .u8 0, .int .u8 0, .int .u8 0, .int .u8 0, .int .u8 0] 138) = w1 at HZ1 HZ2 HB0
  go_loopw [25] (fun kv wr => ∃ k : Nat, k ≤ 256 ∧ kv = .int .i64 k ∧ Hid (SetIn wr w.heap.size 138 noP) ∧ Hid (SetIn wr (w.heap.size + 1) 138 (uptoP (kindP 4) k)) ∧ Hid (Below w.heap.size w wr)) (fun kv _ => 256 - (intOf kv).toNat)
  case atStart => exact ⟨0, by omega, rfl, HZ1.out, HZ2.out, HB0.out⟩
  case round =>
    clear HZ1 HZ2 HB0
    obtain ⟨k, hk, rfl, HZ, HP, HB⟩ := hrel
    by_cases hkl : k < 256
    · have ec : IntKind.u8.wrap (k : Int) = (k : Int) := by rw [IntKind.wrap_u8]; omega
      by_cases hp : (kindP 4) k = true
      · have hcl : (clsN (k : Int) == 4) = true := by have h := hp; unfold kindP at h; rw [if_neg (by decide)] at h; simpa using h
        go_wp2_with fail
        refine (of_any (k : Int) _ (by omega) (by omega)).mono ?_
        rintro e w' ⟨rfl, rfl⟩
        go_wp2_with fail
        refine (add_any _ _ k _ _ (by exact HP.out) hkl).mono ?_
        rintro e w2 ⟨rfl, hs2, ho2⟩
        have HP2 := Lib.hid (hs2.congr (upto_in _ k hp))
        have HZ2 := Lib.hid (HZ.out.keep (ho2.block _ HZ.out.lt (by omega)))
        have HB2 := Lib.hid (HB.out.trans (ho2.below (B := w.heap.size) (Nat.le_succ _) HB.out.size))
        clear hs2 ho2
        go_wp2_with fail
        exact ⟨⟨k + 1, by omega, by go_num, HZ2.out, HP2.out, HB2.out⟩, by simp [intOf]; try omega⟩

      · have hp' : (kindP 4) k = false := by simpa using hp
        have hcl : (clsN (k : Int) == 4) = false := by have h := hp'; unfold kindP at h; rw [if_neg (by decide)] at h; simpa using h
        have HP2 := Lib.hid (HP.out.congr (upto_out _ k hp'))
        go_wp2_with fail
        refine (of_any (k : Int) _ (by omega) (by omega)).mono ?_
        rintro e w' ⟨rfl, rfl⟩
        go_wp2_with fail
        exact ⟨⟨k + 1, by omega, by go_num, HZ.out, HP2.out, HB.out⟩, by simp [intOf]; try omega⟩
    · obtain rfl : k = 256 := by omega
      have HP2 := Lib.hid (HP.out.congr (upto_all _))
      by_cases hls : l = 108
      · subst hls
        go_wp2_with (first
          | (refine wpList_load_row rfl 138 (.tmp 6) rfl (w.heap.size + 1) rfl 138 (setC (kindP 4)).toArray (0, 0) _ HP2.out Tryd.underlying138 rfl (by rw [set_size, setC_size]) ?_)
          | (refine wpList_store_row rfl 138 (.tmp 2) (.tmp 58) rfl (w.heap.size) (setC (kindP 4)).toArray rfl rfl 138 (setC noP).toArray HZ.out (by rw [set_size, setC_size]) (by rw [setC_size, setC_size]) (setC_one _) ?_))
        exact bodyPost_ret (v := .tuple #[.agg (setC (kindP 4)).toArray, .bool true]) (res_set_tmp Tryd.results136 _ _ w.heap.size 138 (kindP 4) _ rfl rfl (HZ.out.row (kindP 4))) rfl ⟨rfl, below_setRow HB.out (Nat.le_refl _) _⟩
      · have hne : ((l : Int) != 108) = true := bne_iff_ne.2 (by omega)
        go_wp2_with (refine wpList_load_row rfl 138 (.tmp 6) rfl (w.heap.size + 1) rfl 138 (setC (kindP 4)).toArray (0, 0) _ HP2.out Tryd.underlying138 rfl (by rw [set_size, setC_size]) ?_)
        refine (inverted_any (kindP 4) _).mono ?_
        rintro e w2 ⟨rfl, hb2⟩
        have HP3 := Lib.hid (HP2.out.keep (hb2.block _ HP2.out.lt))
        have HZ3 := Lib.hid (HZ.out.keep (hb2.block _ HZ.out.lt))
        have HB3 := Lib.hid (HB.out.trans (hb2.mono HB.out.size))
        clear hb2
        go_upto_region 26 with (refine wpList_store_row rfl 138 (.tmp 6) (.tmp 57) rfl (w.heap.size + 1) (setC (notP (kindP 4))).toArray rfl rfl 138 (setC (kindP 4)).toArray HP3.out (by rw [set_size, setC_size]) (by rw [setC_size, setC_size]) (setC_one _) ?_)
        have HP4 := Lib.hid (HP3.out.row (notP (kindP 4)))
        have HZ4 := Lib.hid (HZ3.out.keep (w' := w2.setRow (w.heap.size + 1) (setC (notP (kindP 4))).toArray) (setRow_other _ _ _ _ (by omega)))
        have HB4 := Lib.hid (below_setRow HB3.out (Nat.le_succ w.heap.size) (setC (notP (kindP 4))).toArray)
        generalize w2.setRow (w.heap.size + 1) (setC (notP (kindP 4))).toArray = w4 at HP4 HZ4 HB4
        go_wp2_with (first
          | (refine wpList_load_row rfl 138 (.tmp 6) rfl (w.heap.size + 1) rfl 138 (setC (notP (kindP 4))).toArray (0, 0) _ HP4.out Tryd.underlying138 rfl (by rw [set_size, setC_size]) ?_)
          | (refine wpList_store_row rfl 138 (.tmp 2) (.tmp 58) rfl (w.heap.size) (setC (notP (kindP 4))).toArray rfl rfl 138 (setC noP).toArray HZ4.out (by rw [set_size, setC_size]) (by rw [setC_size, setC_size]) (setC_one _) ?_))
        exact bodyPost_ret (v := .tuple #[.agg (setC (notP (kindP 4))).toArray, .bool true]) (res_set_tmp Tryd.results136 _ _ w.heap.size 138 (notP (kindP 4)) _ rfl rfl (HZ4.out.row (notP (kindP 4)))) rfl ⟨by first | rfl | rw [if_neg hls], below_setRow HB4.out (Nat.le_refl _) _⟩

set_option maxRecDepth 100000 in
set_option maxHeartbeats 8000000 in
theorem classSet_99 (l : Nat) (w : World) (hl : l < 256) (hs : bits BinOp.or IntKind.u8 (l : Int) 32 = 99) :
    Calls Tryd.prog 136 #[.int .u8 l] w fun e w' => e = .returned (.tuple #[.agg (setC (if l = 99 then kindP 1 else notP (kindP 1))).toArray, .bool true]) ∧ Below w.heap.size w w' := by
  go_enter Tryd.func136, Tryd.ntmps136
  go_wp2_with fail
  have HZ1 : Hid (SetIn ((w.alloc (.cells #[.int .u8 0, .int .u8 0, .int .u8 0, .int .u8 0, .int .u8 0, .int .u8 0, .int .u8 0, .int .u8 0, .int .u8 0, .int .u8 0, .int .u8 0, .int .u8 0, .int .u8 0, .int .u8 0, .int .u8 0, .int .u8 0, .int .u8 0, .int .u8 0, .int .u8 0, .int .u8 0, .int .u8 0, .int .u8 0, .int .u8 0, .int .u8 0, .int .u8 0, .int .u8 0, .int .u8 0, .int .u8 0, .int .u8 0, .int .u8 0, .int .u8 0, .int .u8 0] 138)).alloc (.cells #[.int .u8 0, .int .u8 0, .int .u8 0, .int .u8 0, .int .u8 0, .int .u8 0, .int .u8 0, .int .u8 0, .int .u8 0, .int .u8 0, .int .u8 0, .int .u8 0, .int .u8 0, .int .u8 0, .int .u8 0, .int .u8 0, .int .u8 0, .int .u8 0, .int .u8 0, .int .u8 0, .int .u8 0, .int .u8 0, .int .u8 0, .int .u8 0, .int .u8 0, .int .u8 0, .int .u8 0, .int .u8 0, .int .u8 0, .int .u8 0, .int .u8 0, .int .u8 0] 138)) w.heap.size 138 noP) := (zero_in w 138).keep (Below.heap_alloc _ _ _ (by simp))
  have HZ2 : Hid (SetIn ((w.alloc (.cells #[.int .u8 0, .int .u8 0, .int .u8 0, .int .u8 0, .int .u8 0, .int .u8 0, .int .u8 0, .int .u8 0, .int .u8 0, .int .u8 0, .int .u8 0, .int .u8 0, .int .u8 0, .int .u8 0, .int .u8 0, .int .u8 0, .int .u8 0, .int .u8 0, .int .u8 0, .int .u8 0, .int .u8 0, .int .u8 0, .int .u8 0, .int .u8 0, .int .u8 0, .int .u8 0, .int .u8 0, .int .u8 0, .int .u8 0, .int .u8 0, .int .u8 0, .int .u8 0] 138)).alloc (.cells #[.int .u8 0, .int .u8 0, .int .u8 0, .int .u8 0, .int .u8 0, .int .u8 0, .int .u8 0, .int .u8 0, .int .u8 0, .int .u8 0, .int .u8 0, .int .u8 0, .int .u8 0, .int .u8 0, .int .u8 0, .int .u8 0, .int .u8 0, .int .u8 0, .int .u8 0, .int .u8 0, .int .u8 0, .int .u8 0, .int .u8 0, .int .u8 0, .int .u8 0, .int .u8 0, .int .u8 0, .int .u8 0, .int .u8 0, .int .u8 0, .int .u8 0, .int .u8 0] 138)) (w.heap.size + 1) 138 (uptoP (kindP 1) 0)) := by
    have h := zero_in (w.alloc (.cells #[.int .u8 0, .int .u8 0, .int .u8 0, .int .u8 0, .int .u8 0, .int .u8 0, .int .u8 0, .int .u8 0, .int .u8 0, .int .u8 0, .int .u8 0, .int .u8 0, .int .u8 0, .int .u8 0, .int .u8 0, .int .u8 0, .int .u8 0, .int .u8 0, .int .u8 0, .int .u8 0, .int .u8 0, .int .u8 0, .int .u8 0, .int .u8 0, .int .u8 0, .int .u8 0, .int .u8 0, .int .u8 0, .int .u8 0, .int .u8 0, .int .u8 0, .int .u8 0] 138)) 138
    rw [show (w.alloc (.cells #[.int .u8 0, .int .u8 0, .int .u8 0, .int .u8 0, .int .u8 0, .int .u8 0, .int .u8 0, .int .u8 0, .int .u8 0, .int .u8 0, .int .u8 0, .int .u8 0, .int .u8 0, .int .u8 0, .int .u8 0, .int .u8 0, .int .u8 0, .int .u8 0, .int .u8 0, .int .u8 0, .int .u8 0, .int .u8 0, .int .u8 0, .int .u8 0, .int .u8 0, .int .u8 0, .int .u8 0, .int .u8 0, .int .u8 0, .int .u8 0, .int .u8 0, .int .u8 0] 138)).heap.size = w.heap.size + 1 by simp] at h
    exact h.congr (upto_zero _)
  have HB0 := Lib.hid (((Below.refl w.heap.size w).alloc (Nat.le_refl _) (.cells #[.int .u8 0, .int .u8 0, .int .u8 0, .int .u8 0, .int .u8 0, .int .u8 0, .int .u8 0, .int .u8 0, .int .u8 0, .int .u8 0, .int .u8 0, .int .u8 0, .int .u8 0, .int .u8 0, .int .u8 0, .int .u8 0, .int .u8 0, .int .u8 0, .int .u8 0, .int .u8 0, .int .u8 0, .int .u8 0, .int .u8 0, .int .u8 0, .int .u8 0, .int .u8 0, .int .u8 0, .int .u8 0, .int .u8 0, .int .u8 0, .int .u8 0, .int .u8 0] 138)).alloc (by simp) (.cells #[.int .u8 0, .int .u8 0, .int .u8 0, .int .u8 0, .int .u8 0, .int .u8 0, .int .u8 0, .int .u8 0, .int .u8 0, .int .u8 0, .int .u8 0, .int .u8 0, .int .u8 0, .int .u8 0, .int .u8 0, .int .u8 0, .int .u8 0, .int .u8 0, .int .u8 0, .int .u8 0, .int .u8 0, .int .u8 0, .int .u8 0, .int .u8 0, .int .u8 0, .int .u8 0, .int .u8 0, .int .u8 0, .int .u8 0, .int .u8 0, .int .u8 0, .int .u8 0] 138))
  generalize (w.alloc (.cells #[.int .u8 0, .int .u8 0, .int .u8 0, .int .u8 0, .int .u8 0, .int .u8 0, .int .u8 0, .int .u8 0, .int .u8 0, .int .u8 0, .int .u8 0, .int .u8 0, .int .u8 0, .int .u8 0, .int .u8 0, .int .u8 0, .int .u8 0, .int .u8 0, .int .u8 0, .int .u8 0, .int .u8 0, .int .u8 0, .int .u8 0, .int .u8 0, .int .u8 0, .int .u8 0, .int .u8 0, .int .u8 0, .int .u8 0, .int .u8 0, .int .u8 0, .int .u8 0] 138)).alloc (.cells #[.int .u8 0, .int .u8 0, .int .u8 0, .int .u8 0, .int .u8 0, .int .u8 0, .int .u8 0, .int .u8 0, .int .u8 0, .int .u8 0, .int .u8 0, .int .u8 0, .int .u8 0, .int .u8 0, .int .u8 0, .int .u8 0, .int .u8 0, .int .u8 0, .int .u8 0, .int .u8 0, .int .u8 0, .int .u8 0, .int .u8 0, .int .u8 0, .int .u8 0, .int .u8 0, .int .u8 0, .int .u8 0, .int .u8 0, .int .u8 0, .int .u8 0, .int .u8 0] 138) = w1 at HZ1 HZ2 HB0
  go_loopw [25] (fun kv wr => ∃ k : Nat, k ≤ 256 ∧ kv = .int .i64 k ∧ Hid (SetIn wr w.heap.size 138 noP) ∧ Hid (SetIn wr (w.heap.size + 1) 138 (uptoP (kindP 1) k)) ∧ Hid (Below w.heap.size w wr)) (fun kv _ => 256 - (intOf kv).toNat)
  case atStart => exact ⟨0, by omega, rfl, HZ1.out, HZ2.out, HB0.out⟩
  case round =>
    clear HZ1 HZ2 HB0
    obtain ⟨k, hk, rfl, HZ, HP, HB⟩ := hrel
    by_cases hkl : k < 256
    · have ec : IntKind.u8.wrap (k : Int) = (k : Int) := by rw [IntKind.wrap_u8]; omega
      by_cases hp : (kindP 1) k = true
      · have hcl : (clsN (k : Int) == 1) = true := by have h := hp; unfold kindP at h; rw [if_neg (by decide)] at h; simpa using h
        go_wp2_with fail
        refine (of_any (k : Int) _ (by omega) (by omega)).mono ?_
        rintro e w' ⟨rfl, rfl⟩
        go_wp2_with fail
        refine (add_any _ _ k _ _ (by exact HP.out) hkl).mono ?_
        rintro e w2 ⟨rfl, hs2, ho2⟩
        have HP2 := Lib.hid (hs2.congr (upto_in _ k hp))
        have HZ2 := Lib.hid (HZ.out.keep (ho2.block _ HZ.out.lt (by omega)))
        have HB2 := Lib.hid (HB.out.trans (ho2.below (B := w.heap.size) (Nat.le_succ _) HB.out.size))
        clear hs2 ho2
        go_wp2_with fail
        exact ⟨⟨k + 1, by omega, by go_num, HZ2.out, HP2.out, HB2.out⟩, by simp [intOf]; try omega⟩

      · have hp' : (kindP 1) k = false := by simpa using hp
        have hcl : (clsN (k : Int) == 1) = false := by have h := hp'; unfold kindP at h; rw [if_neg (by decide)] at h; simpa using h
        have HP2 := Lib.hid (HP.out.congr (upto_out _ k hp'))
        go_wp2_with fail
        refine (of_any (k : Int) _ (by omega) (by omega)).mono ?_
        rintro e w' ⟨rfl, rfl⟩
        go_wp2_with fail
        exact ⟨⟨k + 1, by omega, by go_num, HZ.out, HP2.out, HB.out⟩, by simp [intOf]; try omega⟩
    · obtain rfl : k = 256 := by omega
      have HP2 := Lib.hid (HP.out.congr (upto_all _))
      by_cases hls : l = 99
      · subst hls
        go_wp2_with (first
          | (refine wpList_load_row rfl 138 (.tmp 6) rfl (w.heap.size + 1) rfl 138 (setC (kindP 1)).toArray (0, 0) _ HP2.out Tryd.underlying138 rfl (by rw [set_size, setC_size]) ?_)
          | (refine wpList_store_row rfl 138 (.tmp 2) (.tmp 58) rfl (w.heap.size) (setC (kindP 1)).toArray rfl rfl 138 (setC noP).toArray HZ.out (by rw [set_size, setC_size]) (by rw [setC_size, setC_size]) (setC_one _) ?_))
        exact bodyPost_ret (v := .tuple #[.agg (setC (kindP 1)).toArray, .bool true]) (res_set_tmp Tryd.results136 _ _ w.heap.size 138 (kindP 1) _ rfl rfl (HZ.out.row (kindP 1))) rfl ⟨rfl, below_setRow HB.out (Nat.le_refl _) _⟩
      · have hne : ((l : Int) != 99) = true := bne_iff_ne.2 (by omega)
        go_wp2_with (refine wpList_load_row rfl 138 (.tmp 6) rfl (w.heap.size + 1) rfl 138 (setC (kindP 1)).toArray (0, 0) _ HP2.out Tryd.underlying138 rfl (by rw [set_size, setC_size]) ?_)
        refine (inverted_any (kindP 1) _).mono ?_
        rintro e w2 ⟨rfl, hb2⟩
        have HP3 := Lib.hid (HP2.out.keep (hb2.block _ HP2.out.lt))
        have HZ3 := Lib.hid (HZ.out.keep (hb2.block _ HZ.out.lt))
        have HB3 := Lib.hid (HB.out.trans (hb2.mono HB.out.size))
        clear hb2
        go_upto_region 26 with (refine wpList_store_row rfl 138 (.tmp 6) (.tmp 57) rfl (w.heap.size + 1) (setC (notP (kindP 1))).toArray rfl rfl 138 (setC (kindP 1)).toArray HP3.out (by rw [set_size, setC_size]) (by rw [setC_size, setC_size]) (setC_one _) ?_)
        have HP4 := Lib.hid (HP3.out.row (notP (kindP 1)))
        have HZ4 := Lib.hid (HZ3.out.keep (w' := w2.setRow (w.heap.size + 1) (setC (notP (kindP 1))).toArray) (setRow_other _ _ _ _ (by omega)))
        have HB4 := Lib.hid (below_setRow HB3.out (Nat.le_succ w.heap.size) (setC (notP (kindP 1))).toArray)
        generalize w2.setRow (w.heap.size + 1) (setC (notP (kindP 1))).toArray = w4 at HP4 HZ4 HB4
        go_wp2_with (first
          | (refine wpList_load_row rfl 138 (.tmp 6) rfl (w.heap.size + 1) rfl 138 (setC (notP (kindP 1))).toArray (0, 0) _ HP4.out Tryd.underlying138 rfl (by rw [set_size, setC_size]) ?_)
          | (refine wpList_store_row rfl 138 (.tmp 2) (.tmp 58) rfl (w.heap.size) (setC (notP (kindP 1))).toArray rfl rfl 138 (setC noP).toArray HZ4.out (by rw [set_size, setC_size]) (by rw [setC_size, setC_size]) (setC_one _) ?_))
        exact bodyPost_ret (v := .tuple #[.agg (setC (notP (kindP 1))).toArray, .bool true]) (res_set_tmp Tryd.results136 _ _ w.heap.size 138 (notP (kindP 1)) _ rfl rfl (HZ4.out.row (notP (kindP 1)))) rfl ⟨by first | rfl | rw [if_neg hls], below_setRow HB4.out (Nat.le_refl _) _⟩

set_option maxRecDepth 100000 in
set_option maxHeartbeats 8000000 in
theorem classSet_109 (l : Nat) (w : World) (hl : l < 256) (hs : bits BinOp.or IntKind.u8 (l : Int) 32 = 109) :
    Calls Tryd.prog 136 #[.int .u8 l] w fun e w' => e = .returned (.tuple #[.agg (setC (if l = 109 then kindP 5 else notP (kindP 5))).toArray, .bool true]) ∧ Below w.heap.size w w' := by
  go_enter Tryd.func136, Tryd.ntmps136
  go_wp2_with fail
  have HZ1 : Hid (SetIn ((w.alloc (.cells #[.int .u8 0, .int .u8 0, .int .u8 0, .int .u8 0, .int .u8 0, .int .u8 0, .int .u8 0, .int .u8 0, .int .u8 0, .int .u8 0, .int .u8 0, .int .u8 0, .int .u8 0, .int .u8 0, .int .u8 0, .int .u8 0, .int .u8 0, .int .u8 0, .int .u8 0, .int .u8 0, .int .u8 0, .int .u8 0, .int .u8 0, .int .u8 0, .int .u8 0, .int .u8 0, .int .u8 0, .int .u8 0, .int .u8 0, .int .u8 0, .int .u8 0, .int .u8 0] 138)).alloc (.cells #[.int .u8 0, .int .u8 0, .int .u8 0, .int .u8 0, .int .u8 0, .int .u8 0, .int .u8 0, .int .u8 0, .int .u8 0, .int .u8 0, .int .u8 0, .int .u8 0, .int .u8 0, .int .u8 0, .int .u8 0, .int .u8 0, .int .u8 0, .int .u8 0, .int .u8 0, .int .u8 0, .int .u8 0, .int .u8 0, .int .u8 0, .int .u8 0, .int .u8 0, .int .u8 0, .int .u8 0, .int .u8 0, .int .u8 0, .int .u8 0, .int .u8 0, .int .u8 0] 138)) w.heap.size 138 noP) := (zero_in w 138).keep (Below.heap_alloc _ _ _ (by simp))
  have HZ2 : Hid (SetIn ((w.alloc (.cells #[.int .u8 0, .int .u8 0, .int .u8 0, .int .u8 0, .int .u8 0, .int .u8 0, .int .u8 0, .int .u8 0, .int .u8 0, .int .u8 0, .int .u8 0, .int .u8 0, .int .u8 0, .int .u8 0, .int .u8 0, .int .u8 0, .int .u8 0, .int .u8 0, .int .u8 0, .int .u8 0, .int .u8 0, .int .u8 0, .int .u8 0, .int .u8 0, .int .u8 0, .int .u8 0, .int .u8 0, .int .u8 0, .int .u8 0, .int .u8 0, .int .u8 0, .int .u8 0] 138)).alloc (.cells #[.int .u8 0, .int .u8 0, .int .u8 0, .int .u8 0, .int .u8 0, .int .u8 0, .int .u8 0, .int .u8 0, .int .u8 0, .int .u8 0, .int .u8 0, .int .u8 0, .int .u8 0, .int .u8 0, .int .u8 0, .int .u8 0, .int .u8 0, .int .u8 0, .int .u8 0, .int .u8 0, .int .u8 0, .int .u8 0, .int .u8 0, .int .u8 0, .int .u8 0, .int .u8 0, .int .u8 0, .int .u8 0, .int .u8 0, .int .u8 0, .int .u8 0, .int .u8 0] 138)) (w.heap.size + 1) 138 (uptoP (kindP 5) 0)) := by
    have h := zero_in (w.alloc (.cells #[.int .u8 0, .int .u8 0, .int .u8 0, .int .u8 0, .int .u8 0, .int .u8 0, .int .u8 0, .int .u8 0, .int .u8 0, .int .u8 0, .int .u8 0, .int .u8 0, .int .u8 0, .int .u8 0, .int .u8 0, .int .u8 0, .int .u8 0, .int .u8 0, .int .u8 0, .int .u8 0, .int .u8 0, .int .u8 0, .int .u8 0, .int .u8 0, .int .u8 0, .int .u8 0, .int .u8 0, .int .u8 0, .int .u8 0, .int .u8 0, .int .u8 0, .int .u8 0] 138)) 138
    rw [show (w.alloc (.cells #[.int .u8 0, .int .u8 0, .int .u8 0, .int .u8 0, .int .u8 0, .int .u8 0, .int .u8 0, .int .u8 0, .int .u8 0, .int .u8 0, .int .u8 0, .int .u8 0, .int .u8 0, .int .u8 0, .int .u8 0, .int .u8 0, .int .u8 0, .int .u8 0, .int .u8 0, .int .u8 0, .int .u8 0, .int .u8 0, .int .u8 0, .int .u8 0, .int .u8 0, .int .u8 0, .int .u8 0, .int .u8 0, .int .u8 0, .int .u8 0, .int .u8 0, .int .u8 0] 138)).heap.size = w.heap.size + 1 by simp] at h
    exact h.congr (upto_zero _)
  have HB0 := Lib.hid (((Below.refl w.heap.size w).alloc (Nat.le_refl _) (.cells #[.int .u8 0, .int .u8 0, .int .u8 0, .int .u8 0, .int .u8 0, .int .u8 0, .int .u8 0, .int .u8 0, .int .u8 0, .int .u8 0, .int .u8 0, .int .u8 0, .int .u8 0, .int .u8 0, .int .u8 0, .int .u8 0, .int .u8 0, .int .u8 0, .int .u8 0, .int .u8 0, .int .u8 0, .int .u8 0, .int .u8 0, .int .u8 0, .int .u8 0, .int .u8 0, .int .u8 0, .int .u8 0, .int .u8 0, .int .u8 0, .int .u8 0, .int .u8 0] 138)).alloc (by simp) (.cells #[.int .u8 0, .int .u8 0, .int .u8 0, .int .u8 0, .int .u8 0, .int .u8 0, .int .u8 0, .int .u8 0, .int .u8 0, .int .u8 0, .int .u8 0, .int .u8 0, .int .u8 0, .int .u8 0, .int .u8 0, .int .u8 0, .int .u8 0, .int .u8 0, .int .u8 0, .int .u8 0, .int .u8 0, .int .u8 0, .int .u8 0, .int .u8 0, .int .u8 0, .int .u8 0, .int .u8 0, .int .u8 0, .int .u8 0, .int .u8 0, .int .u8 0, .int .u8 0] 138))
  generalize (w.alloc (.cells #[.int .u8 0, .int .u8 0, .int .u8 0, .int .u8 0, .int .u8 0, .int .u8 0, .int .u8 0, .int .u8 0, .int .u8 0, .int .u8 0, .int .u8 0, .int .u8 0, .int .u8 0, .int .u8 0, .int .u8 0, .int .u8 0, .int .u8 0, .int .u8 0, .int .u8 0, .int .u8 0, .int .u8 0, .int .u8 0, .int .u8 0, .int .u8 0, .int .u8 0, .int .u8 0, .int .u8 0, .int .u8 0, .int .u8 0, .int .u8 0, .int .u8 0, .int .u8 0] 138)).alloc (.cells #[.int .u8 0, .int .u8 0, .int .u8 0, .int .u8 0, .int .u8 0, .int .u8 0, .int .u8 0, .int .u8 0, .int .u8 0, .int .u8 0, .int .u8 0, .int .u8 0, .int .u8 0, .int .u8 0, .int .u8 0, .int .u8 0, .int .u8 0, .int .u8 0, .int .u8 0, .int .u8 0, .int .u8 0, .int .u8 0, .int .u8 0, .int .u8 0, .int .u8 0, .int .u8 0, .int .u8 0, .int .u8 0, .int .u8 0, .int .u8 0, .int .u8 0, .int .u8 0] 138) = w1 at HZ1 HZ2 HB0
  go_loopw [25] (fun kv wr => ∃ k : Nat, k ≤ 256 ∧ kv = .int .i64 k ∧ Hid (SetIn wr w.heap.size 138 noP) ∧ Hid (SetIn wr (w.heap.size + 1) 138 (uptoP (kindP 5) k)) ∧ Hid (Below w.heap.size w wr)) (fun kv _ => 256 - (intOf kv).toNat)
  case atStart => exact ⟨0, by omega, rfl, HZ1.out, HZ2.out, HB0.out⟩
  case round =>
    clear HZ1 HZ2 HB0
    obtain ⟨k, hk, rfl, HZ, HP, HB⟩ := hrel
    by_cases hkl : k < 256
    · have ec : IntKind.u8.wrap (k : Int) = (k : Int) := by rw [IntKind.wrap_u8]; omega
      by_cases hp : (kindP 5) k = true
      · have hcl : (clsN (k : Int) == 5) = true := by have h := hp; unfold kindP at h; rw [if_neg (by decide)] at h; simpa using h
        go_wp2_with fail
        refine (of_any (k : Int) _ (by omega) (by omega)).mono ?_
        rintro e w' ⟨rfl, rfl⟩
        go_wp2_with fail
        refine (add_any _ _ k _ _ (by exact HP.out) hkl).mono ?_
        rintro e w2 ⟨rfl, hs2, ho2⟩
        have HP2 := Lib.hid (hs2.congr (upto_in _ k hp))
        have HZ2 := Lib.hid (HZ.out.keep (ho2.block _ HZ.out.lt (by omega)))
        have HB2 := Lib.hid (HB.out.trans (ho2.below (B := w.heap.size) (Nat.le_succ _) HB.out.size))
        clear hs2 ho2
        go_wp2_with fail
        exact ⟨⟨k + 1, by omega, by go_num, HZ2.out, HP2.out, HB2.out⟩, by simp [intOf]; try omega⟩

      · have hp' : (kindP 5) k = false := by simpa using hp
        have hcl : (clsN (k : Int) == 5) = false := by have h := hp'; unfold kindP at h; rw [if_neg (by decide)] at h; simpa using h
        have HP2 := Lib.hid (HP.out.congr (upto_out _ k hp'))
        go_wp2_with fail
        refine (of_any (k : Int) _ (by omega) (by omega)).mono ?_
        rintro e w' ⟨rfl, rfl⟩
        go_wp2_with fail
        exact ⟨⟨k + 1, by omega, by go_num, HZ.out, HP2.out, HB.out⟩, by simp [intOf]; try omega⟩
    · obtain rfl : k = 256 := by omega
      have HP2 := Lib.hid (HP.out.congr (upto_all _))
      by_cases hls : l = 109
      · subst hls
        go_wp2_with (first
          | (refine wpList_load_row rfl 138 (.tmp 6) rfl (w.heap.size + 1) rfl 138 (setC (kindP 5)).toArray (0, 0) _ HP2.out Tryd.underlying138 rfl (by rw [set_size, setC_size]) ?_)
          | (refine wpList_store_row rfl 138 (.tmp 2) (.tmp 58) rfl (w.heap.size) (setC (kindP 5)).toArray rfl rfl 138 (setC noP).toArray HZ.out (by rw [set_size, setC_size]) (by rw [setC_size, setC_size]) (setC_one _) ?_))
        exact bodyPost_ret (v := .tuple #[.agg (setC (kindP 5)).toArray, .bool true]) (res_set_tmp Tryd.results136 _ _ w.heap.size 138 (kindP 5) _ rfl rfl (HZ.out.row (kindP 5))) rfl ⟨rfl, below_setRow HB.out (Nat.le_refl _) _⟩
      · have hne : ((l : Int) != 109) = true := bne_iff_ne.2 (by omega)
        go_wp2_with (refine wpList_load_row rfl 138 (.tmp 6) rfl (w.heap.size + 1) rfl 138 (setC (kindP 5)).toArray (0, 0) _ HP2.out Tryd.underlying138 rfl (by rw [set_size, setC_size]) ?_)
        refine (inverted_any (kindP 5) _).mono ?_
        rintro e w2 ⟨rfl, hb2⟩
        have HP3 := Lib.hid (HP2.out.keep (hb2.block _ HP2.out.lt))
        have HZ3 := Lib.hid (HZ.out.keep (hb2.block _ HZ.out.lt))
        have HB3 := Lib.hid (HB.out.trans (hb2.mono HB.out.size))
        clear hb2
        go_upto_region 26 with (refine wpList_store_row rfl 138 (.tmp 6) (.tmp 57) rfl (w.heap.size + 1) (setC (notP (kindP 5))).toArray rfl rfl 138 (setC (kindP 5)).toArray HP3.out (by rw [set_size, setC_size]) (by rw [setC_size, setC_size]) (setC_one _) ?_)
        have HP4 := Lib.hid (HP3.out.row (notP (kindP 5)))
        have HZ4 := Lib.hid (HZ3.out.keep (w' := w2.setRow (w.heap.size + 1) (setC (notP (kindP 5))).toArray) (setRow_other _ _ _ _ (by omega)))
        have HB4 := Lib.hid (below_setRow HB3.out (Nat.le_succ w.heap.size) (setC (notP (kindP 5))).toArray)
        generalize w2.setRow (w.heap.size + 1) (setC (notP (kindP 5))).toArray = w4 at HP4 HZ4 HB4
        go_wp2_with (first
          | (refine wpList_load_row rfl 138 (.tmp 6) rfl (w.heap.size + 1) rfl 138 (setC (notP (kindP 5))).toArray (0, 0) _ HP4.out Tryd.underlying138 rfl (by rw [set_size, setC_size]) ?_)
          | (refine wpList_store_row rfl 138 (.tmp 2) (.tmp 58) rfl (w.heap.size) (setC (notP (kindP 5))).toArray rfl rfl 138 (setC noP).toArray HZ4.out (by rw [set_size, setC_size]) (by rw [setC_size, setC_size]) (setC_one _) ?_))
        exact bodyPost_ret (v := .tuple #[.agg (setC (notP (kindP 5))).toArray, .bool true]) (res_set_tmp Tryd.results136 _ _ w.heap.size 138 (notP (kindP 5)) _ rfl rfl (HZ4.out.row (notP (kindP 5)))) rfl ⟨by first | rfl | rw [if_neg hls], below_setRow HB4.out (Nat.le_refl _) _⟩

set_option maxRecDepth 100000 in
set_option maxHeartbeats 8000000 in
theorem classSet_117 (l : Nat) (w : World) (hl : l < 256) (hs : bits BinOp.or IntKind.u8 (l : Int) 32 = 117) :
    Calls Tryd.prog 136 #[.int .u8 l] w fun e w' => e = .returned (.tuple #[.agg (setC (if l = 117 then kindP 0 else notP (kindP 0))).toArray, .bool true]) ∧ Below w.heap.size w w' := by
  go_enter Tryd.func136, Tryd.ntmps136
  go_wp2_with fail
  have HZ1 : Hid (SetIn ((w.alloc (.cells #[.int .u8 0, .int .u8 0, .int .u8 0, .int .u8 0, .int .u8 0, .int .u8 0, .int .u8 0, .int .u8 0, .int .u8 0, .int .u8 0, .int .u8 0, .int .u8 0, .int .u8 0, .int .u8 0, .int .u8 0, .int .u8 0, .int .u8 0, .int .u8 0, .int .u8 0, .int .u8 0, .int .u8 0, .int .u8 0, .int .u8 0, .int .u8 0, .int .u8 0, .int .u8 0, .int .u8 0, .int .u8 0, .int .u8 0, .int .u8 0, .int .u8 0, .int .u8 0] 138)).alloc (.cells #[.int .u8 0, .int .u8 0, .int .u8 0, .int .u8 0, .int .u8 0, .int .u8 0, .int .u8 0, .int .u8 0, .int .u8 0, .int .u8 0, .int .u8 0, .int .u8 0, .int .u8 0, .int .u8 0, .int .u8 0, .int .u8 0, .int .u8 0, .int .u8 0, .int .u8 0, .int .u8 0, .int .u8 0, .int .u8 0, .int .u8 0, .int .u8 0, .int .u8 0, .int .u8 0, .int .u8 0, .int .u8 0, .int .u8 0, .int .u8 0, .int .u8 0, .int .u8 0] 138)) w.heap.size 138 noP) := (zero_in w 138).keep (Below.heap_alloc _ _ _ (by simp))
  have HZ2 : Hid (SetIn ((w.alloc (.cells #[.int .u8 0, .int .u8 0, .int .u8 0, .int .u8 0, .int .u8 0, .int .u8 0, .int .u8 0, .int .u8 0, .int .u8 0, .int .u8 0, .int .u8 0, .int .u8 0, .int .u8 0, .int .u8 0, .int .u8 0, .int .u8 0, .int .u8 0, .int .u8 0, .int .u8 0, .int .u8 0, .int .u8 0, .int .u8 0, .int .u8 0, .int .u8 0, .int .u8 0, .int .u8 0, .int .u8 0, .int .u8 0, .int .u8 0, .int .u8 0, .int .u8 0, .int .u8 0] 138)).alloc (.cells #[.int .u8 0, .int .u8 0, .int .u8 0, .int .u8 0, .int .u8 0, .int .u8 0, .int .u8 0, .int .u8 0, .int .u8 0, .int .u8 0, .int .u8 0, .int .u8 0, .int .u8 0, .int .u8 0, .int .u8 0, .int .u8 0, .int .u8 0, .int .u8 0, .int .u8 0, .int .u8 0, .int .u8 0, .int .u8 0, .int .u8 0, .int .u8 0, .int .u8 0, .int .u8 0, .int .u8 0, .int .u8 0, .int .u8 0, .int .u8 0, .int .u8 0, .int .u8 0] 138)) (w.heap.size + 1) 138 (uptoP (kindP 0) 0)) := by
    have h := zero_in (w.alloc (.cells #[.int .u8 0, .int .u8 0, .int .u8 0, .int .u8 0, .int .u8 0, .int .u8 0, .int .u8 0, .int .u8 0, .int .u8 0, .int .u8 0, .int .u8 0, .int .u8 0, .int .u8 0, .int .u8 0, .int .u8 0, .int .u8 0, .int .u8 0, .int .u8 0, .int .u8 0, .int .u8 0, .int .u8 0, .int .u8 0, .int .u8 0, .int .u8 0, .int .u8 0, .int .u8 0, .int .u8 0, .int .u8 0, .int .u8 0, .int .u8 0, .int .u8 0, .int .u8 0] 138)) 138
    rw [show (w.alloc (.cells #[.int .u8 0, .int .u8 0, .int .u8 0, .int .u8 0, .int .u8 0, .int .u8 0, .int .u8 0, .int .u8 0, .int .u8 0, .int .u8 0, .int .u8 0, .int .u8 0, .int .u8 0, .int .u8 0, .int .u8 0, .int .u8 0, .int .u8 0, .int .u8 0, .int .u8 0, .int .u8 0, .int .u8 0, .int .u8 0, .int .u8 0, .int .u8 0, .int .u8 0, .int .u8 0, .int .u8 0, .int .u8 0, .int .u8 0, .int .u8 0, .int .u8 0, .int .u8 0] 138)).heap.size = w.heap.size + 1 by simp] at h
    exact h.congr (upto_zero _)
  have HB0 := Lib.hid (((Below.refl w.heap.size w).alloc (Nat.le_refl _) (.cells #[.int .u8 0, .int .u8 0, .int .u8 0, .int .u8 0, .int .u8 0, .int .u8 0, .int .u8 0, .int .u8 0, .int .u8 0, .int .u8 0, .int .u8 0, .int .u8 0, .int .u8 0, .int .u8 0, .int .u8 0, .int .u8 0, .int .u8 0, .int .u8 0, .int .u8 0, .int .u8 0, .int .u8 0, .int .u8 0, .int .u8 0, .int .u8 0, .int .u8 0, .int .u8 0, .int .u8 0, .int .u8 0, .int .u8 0, .int .u8 0, .int .u8 0, .int .u8 0] 138)).alloc (by simp) (.cells #[.int .u8 0, .int .u8 0, .int .u8 0, .int .u8 0, .int .u8 0, .int .u8 0, .int .u8 0, .int .u8 0, .int .u8 0, .int .u8 0, .int .u8 0, .int .u8 0, .int .u8 0, .int .u8 0, .int .u8 0, .int .u8 0, .int .u8 0, .int .u8 0, .int .u8 0, .int .u8 0, .int .u8 0, .int .u8 0, .int .u8 0, .int .u8 0, .int .u8 0, .int .u8 0, .int .u8 0, .int .u8 0, .int .u8 0, .int .u8 0, .int .u8 0, .int .u8 0] 138))
  generalize (w.alloc (.cells #[.int .u8 0, .int .u8 0, .int .u8 0, .int .u8 0, .int .u8 0, .int .u8 0, .int .u8 0, .int .u8 0, .int .u8 0, .int .u8 0, .int .u8 0, .int .u8 0, .int .u8 0, .int .u8 0, .int .u8 0, .int .u8 0, .int .u8 0, .int .u8 0, .int .u8 0, .int .u8 0, .int .u8 0, .int .u8 0, .int .u8 0, .int .u8 0, .int .u8 0, .int .u8 0, .int .u8 0, .int .u8 0, .int .u8 0, .int .u8 0, .int .u8 0, .int .u8 0] 138)).alloc (.cells #[.int .u8 0, .int .u8 0, .int .u8 0, .int .u8 0, .int .u8 0, .int .u8 0, .int .u8 0, .int .u8 0, .int .u8 0, .int .u8 0, .int .u8 0, .int .u8 0, .int .u8 0, .int .u8 0, .int .u8 0, .int .u8 0, .int .u8 0, .int .u8 0, .int .u8 0, .int .u8 0, .int .u8 0, .int .u8 0, .int .u8 0, .int .u8 0, .int .u8 0, .int .u8 0, .int .u8 0, .int .u8 0, .int .u8 0, .int .u8 0, .int .u8 0, .int .u8 0] 138) = w1 at HZ1 HZ2 HB0
  go_loopw [25] (fun kv wr => ∃ k : Nat, k ≤ 256 ∧ kv = .int .i64 k ∧ Hid (SetIn wr w.heap.size 138 noP) ∧ Hid (SetIn wr (w.heap.size + 1) 138 (uptoP (kindP 0) k)) ∧ Hid (Below w.heap.size w wr)) (fun kv _ => 256 - (intOf kv).toNat)
  case atStart => exact ⟨0, by omega, rfl, HZ1.out, HZ2.out, HB0.out⟩
  case round =>
    clear HZ1 HZ2 HB0
    obtain ⟨k, hk, rfl, HZ, HP, HB⟩ := hrel
    by_cases hkl : k < 256
    · have ec : IntKind.u8.wrap (k : Int) = (k : Int) := by rw [IntKind.wrap_u8]; omega
      by_cases hp : (kindP 0) k = true
      · have hc : 65 ≤ k ∧ k ≤ 90 := by have h := hp; unfold kindP at h; rw [if_pos rfl] at h; simpa using h
        obtain ⟨hc1, hc2⟩ := hc
        have hd1 : (65 : Int) ≤ (k : Int) := by omega
        have hd2 : (k : Int) ≤ 90 := by omega
        go_wp2_with fail
        refine (add_any _ _ k _ _ (by exact HP.out) hkl).mono ?_
        rintro e w2 ⟨rfl, hs2, ho2⟩
        have HP2 := Lib.hid (hs2.congr (upto_in _ k hp))
        have HZ2 := Lib.hid (HZ.out.keep (ho2.block _ HZ.out.lt (by omega)))
        have HB2 := Lib.hid (HB.out.trans (ho2.below (B := w.heap.size) (Nat.le_succ _) HB.out.size))
        clear hs2 ho2
        go_wp2_with fail
        exact ⟨⟨k + 1, by omega, by go_num, HZ2.out, HP2.out, HB2.out⟩, by simp [intOf]; try omega⟩

      · have hp' : (kindP 0) k = false := by simpa using hp
        have hc : ¬ (65 ≤ k ∧ k ≤ 90) := by have h := hp'; unfold kindP at h; rw [if_pos rfl] at h; simpa using h
        have HP2 := Lib.hid (HP.out.congr (upto_out _ k hp'))
        by_cases hc1 : 65 ≤ k
        · have hd1 : (65 : Int) ≤ (k : Int) := by omega
          have hd2 : ¬ (k : Int) ≤ 90 := by omega
          clear hc
          go_wp2_with fail
          exact ⟨⟨k + 1, by omega, by go_num, HZ.out, HP2.out, HB.out⟩, by simp [intOf]; try omega⟩
        · have hd1 : ¬ (65 : Int) ≤ (k : Int) := by omega
          clear hc
          go_wp2_with fail
          exact ⟨⟨k + 1, by omega, by go_num, HZ.out, HP2.out, HB.out⟩, by simp [intOf]; try omega⟩
    · obtain rfl : k = 256 := by omega
      have HP2 := Lib.hid (HP.out.congr (upto_all _))
      by_cases hls : l = 117
      · subst hls
        go_wp2_with (first
          | (refine wpList_load_row rfl 138 (.tmp 6) rfl (w.heap.size + 1) rfl 138 (setC (kindP 0)).toArray (0, 0) _ HP2.out Tryd.underlying138 rfl (by rw [set_size, setC_size]) ?_)
          | (refine wpList_store_row rfl 138 (.tmp 2) (.tmp 58) rfl (w.heap.size) (setC (kindP 0)).toArray rfl rfl 138 (setC noP).toArray HZ.out (by rw [set_size, setC_size]) (by rw [setC_size, setC_size]) (setC_one _) ?_))
        exact bodyPost_ret (v := .tuple #[.agg (setC (kindP 0)).toArray, .bool true]) (res_set_tmp Tryd.results136 _ _ w.heap.size 138 (kindP 0) _ rfl rfl (HZ.out.row (kindP 0))) rfl ⟨rfl, below_setRow HB.out (Nat.le_refl _) _⟩
      · have hne : ((l : Int) != 117) = true := bne_iff_ne.2 (by omega)
        go_wp2_with (refine wpList_load_row rfl 138 (.tmp 6) rfl (w.heap.size + 1) rfl 138 (setC (kindP 0)).toArray (0, 0) _ HP2.out Tryd.underlying138 rfl (by rw [set_size, setC_size]) ?_)
        refine (inverted_any (kindP 0) _).mono ?_
        rintro e w2 ⟨rfl, hb2⟩
        have HP3 := Lib.hid (HP2.out.keep (hb2.block _ HP2.out.lt))
        have HZ3 := Lib.hid (HZ.out.keep (hb2.block _ HZ.out.lt))
        have HB3 := Lib.hid (HB.out.trans (hb2.mono HB.out.size))
        clear hb2
        go_upto_region 26 with (refine wpList_store_row rfl 138 (.tmp 6) (.tmp 57) rfl (w.heap.size + 1) (setC (notP (kindP 0))).toArray rfl rfl 138 (setC (kindP 0)).toArray HP3.out (by rw [set_size, setC_size]) (by rw [setC_size, setC_size]) (setC_one _) ?_)
        have HP4 := Lib.hid (HP3.out.row (notP (kindP 0)))
        have HZ4 := Lib.hid (HZ3.out.keep (w' := w2.setRow (w.heap.size + 1) (setC (notP (kindP 0))).toArray) (setRow_other _ _ _ _ (by omega)))
        have HB4 := Lib.hid (below_setRow HB3.out (Nat.le_succ w.heap.size) (setC (notP (kindP 0))).toArray)
        generalize w2.setRow (w.heap.size + 1) (setC (notP (kindP 0))).toArray = w4 at HP4 HZ4 HB4
        go_wp2_with (first
          | (refine wpList_load_row rfl 138 (.tmp 6) rfl (w.heap.size + 1) rfl 138 (setC (notP (kindP 0))).toArray (0, 0) _ HP4.out Tryd.underlying138 rfl (by rw [set_size, setC_size]) ?_)
          | (refine wpList_store_row rfl 138 (.tmp 2) (.tmp 58) rfl (w.heap.size) (setC (notP (kindP 0))).toArray rfl rfl 138 (setC noP).toArray HZ4.out (by rw [set_size, setC_size]) (by rw [setC_size, setC_size]) (setC_one _) ?_))
        exact bodyPost_ret (v := .tuple #[.agg (setC (notP (kindP 0))).toArray, .bool true]) (res_set_tmp Tryd.results136 _ _ w.heap.size 138 (notP (kindP 0)) _ rfl rfl (HZ4.out.row (notP (kindP 0)))) rfl ⟨by first | rfl | rw [if_neg hls], below_setRow HB4.out (Nat.le_refl _) _⟩


end Go.Proofs.YtpboaadjbkaidaaDoor
