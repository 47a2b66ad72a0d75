
/-
  The statement PatternLimits: the walk.
-/
import Derived.Test.YtanpiidhcijfaaaKnown5
import Derived.Test.YtanpiidhcijfaaaMatchC
namespace Go.Proofs.Ytanpiidhcijfaaa
open Go.RowKit

def repL : Nat → List UInt8
  | 0 => []
  | k + 1 => repL k ++ [97, 63]
def repA (k : Nat) : ByteArray := ⟨(repL k).toArray⟩
theorem rep_succ (k : Nat) : repA k ++ (⟨#[97, 63]⟩ : ByteArray) = repA (k + 1) := by
  unfold repA
  rw [show repL (k + 1) = repL k ++ [97, 63] from rfl]
  apply ByteArray.ext
  simp
theorem rep_len : ∀ k, (repL k).length = 2 * k
  | 0 => rfl
  | k + 1 => by
    rw [show repL (k + 1) = repL k ++ [97, 63] from rfl, List.length_append, rep_len k]
    rfl
theorem rep_size (k : Nat) : (repA k).size = 2 * k := rep_len k
def zeroL (n : Nat) : List At := List.replicate n ⟨noP, 0, false⟩
def zeroR (n : Nat) : Array Value := madeCells (atC ⟨noP, 0, false⟩).toArray (n * 34)
theorem zeroR_get (n i j : Nat) (hi : i < n) (hj : j < 34) : (zeroR n)[i * 34 + j]? = (atC ⟨noP, 0, false⟩)[j]? := by
  have hlt : i * 34 + j < n * 34 := by
    have : (i + 1) * 34 ≤ n * 34 := Nat.mul_le_mul_right _ hi
    omega
  have hm : (i * 34 + j) % 34 = j := by omega
  have hj2 : j < (atC ⟨noP, 0, false⟩).length := by rw [atC_len]; exact hj
  unfold zeroR madeCells
  rw [List.size_toArray, atC_len]
  simp only [Array.getElem?_map, Array.getElem?_range, hlt, if_true, Option.map_some, hm]
  rw [getElem!_pos (atC ⟨noP, 0, false⟩).toArray j (by simpa using hj2), List.getElem?_eq_getElem hj2]
  rfl
theorem make_gen (n : Nat) (hn : n ≤ 1000) (w : World) : (Instr.makeSlice 26 (.int .i64 n) (.int .i64 n)).run Try.prog w = .ok (.slice (some ⟨w.heap.size, 0, none⟩) n n) (w.alloc (.cells (zeroR n) 37)) := by
  obtain ⟨i, hi, hz, hs, hb⟩ := info_parts atom_info
  have h := run_make (P := Try.prog) (w := w) 26 37 i _ Try.underlying26 hi hz .i64 .i64 n n (by omega) (Int.le_refl _) (by rw [hb]; omega) (by omega)
  simp only [Int.toNat_natCast, hs] at h
  exact h
theorem zero_rd (w : World) (n : Nat) : RdE atC 34 (w.alloc (.cells (zeroR n) 37)) (.slice (some ⟨w.heap.size, 0, none⟩) n n) (zeroL n) := by
  have hn : (zeroL n).length = n := by simp [zeroL]
  refine ⟨some ⟨w.heap.size, 0, none⟩, n, by rw [hn], by rw [hn]; exact Nat.le_refl _, (fun h => by cases h), fun _ => ⟨w.heap.size, 0, rfl, by simp, fun i x j u hi hj => ?_⟩⟩
  have hjm : j < 34 := by rw [← atC_len x]; exact (List.getElem?_eq_some_iff.1 hj).1
  have hin : i < n := by rw [← hn]; exact (List.getElem?_eq_some_iff.1 hi).1
  have hx : x = ⟨noP, 0, false⟩ := by
    have := List.mem_of_getElem? hi
    exact List.eq_of_mem_replicate this
  subst hx
  rw [Nat.zero_add, cell_of_row _ _ _ _ _ _ (heap_alloc_new w _), zeroR_get n i j hin hjm, hj]
theorem rep_30 : (parseF (repA 30)).2.1 = 0 ∧ (parseF (repA 30)).2.2 = 0 ∧ (parseF (repA 30)).1.length = 30 := by decide +kernel
theorem rep_31 : (parseF (repA 31)).2.1 = 0 ∧ (parseF (repA 31)).2.2 = 0 ∧ (parseF (repA 31)).1.length = 31 := by decide +kernel
theorem rep_32 : (parseF (repA 32)).2.1 = 0 ∧ (parseF (repA 32)).2.2 = 0 ∧ (parseF (repA 32)).1.length = 32 := by decide +kernel
theorem rep_33 : (parseF (repA 33)).2.1 = 64 ∧ (parseF (repA 33)).2.2 = 3 ∧ (parseF (repA 33)).1.length = 0 := by decide +kernel
theorem rep_34 : (parseF (repA 34)).2.1 = 64 ∧ (parseF (repA 34)).2.2 = 3 ∧ (parseF (repA 34)).1.length = 0 := by decide +kernel



set_option maxRecDepth 100000 in
set_option maxHeartbeats 8000000 in
theorem limits_30 (x : Int) (w : World) (hE : wrap64 ((IntKind.u64.wrap x).tmod 5) = 0) :
    Calls Try.prog 8 #[.int .i64 x] w fun e w' => e = .returned (.bool true) ∧ Below w.heap.size w w' := by
  have HK := Lib.hid known_any
  have HE := Lib.hid hE
  clear hE
  go_enter Try.func8, Try.ntmps8
  go_upto_region 2 with fail
  rw [HE.out, show wrap64 (30 + 0) = 30 from IntWalk.wrap64_in _ ⟨by decide, by decide⟩]
  clear HE
  have hmk : ∀ w, (Instr.makeSlice 26 (.int .i64 30) (.int .i64 30)).run Try.prog w = .ok (.slice (some ⟨w.heap.size, 0, none⟩) 30 30) (w.alloc (.cells (zeroR 30) 37)) := make_gen 30 (by decide)
  have HP := Lib.hid (fun w => (parse_any w (repA 30) (by decide)).mono fun e w' h => RetPar.out h (j := 0) (x := 0) rep_30.1 rep_30.2.1)
  have hl : (parseF (repA 30)).1.length = 30 := rep_30.2.2
  generalize (parseF (repA 30)).1 = pl at HP hl
  have HV := Lib.hid (fun w => valid_any (zeroL 30) (.slice (some ⟨w.heap.size, 0, none⟩) 30 30) (w.alloc (.cells (zeroR 30) 37)) (zero_rd w 30) (by show 30 ≤ _; decide))
  rw [show validF (zeroL 30) = 0 from rfl] at HV
  go_wp2_with fail
  go_loopg [3, 4] 30 (fun n sv iv wr => ∃ k : Nat, k ≤ 30 ∧ sv = .string (repA k) ∧ iv = .int .i64 k ∧ w = wr ∧ 30 - k ≤ n)
  case atStart => exact ⟨0, by omega, rfl, rfl, rfl, by omega⟩
  case round =>
    obtain ⟨k, hk, rfl, rfl, rfl, hgk⟩ := hrel
    by_cases hkl : k < 30
    · have hki : (k : Int) < 30 := by omega
      have hsz := rep_size k
      have HS := Lib.hid (rep_succ k)
      generalize repA k = u at hsz HS
      go_wp2_with fail
      go_roundg (30 - (k + 1))
      case measure => omega
      case rel => exact ⟨k + 1, by omega, by rw [HS.out], by go_num, rfl, Nat.le_refl _⟩
    · obtain rfl : k = 30 := by omega
      generalize repA 30 = u at HP
      have hki : ¬ ((30 : Nat) : Int) < 30 := by omega
      go_upto_region 8 with (go_at_call 14; refine (HP.out _).mono ?_; rintro e w1 ⟨v1, rfl, hown, hb1⟩)
      obtain ⟨A1, c1, hv1⟩ := own_shape hown
      rw [hl] at hv1
      subst hv1
      have HB1 := Lib.hid hb1
      clear hown hb1 HP
      go_wp2_with (first
        | (go_at_call 22; refine (HV.out _).mono ?_; rintro e w2 ⟨rfl, hb2⟩; have HB2 := Lib.hid ((HB1.out.alloc HB1.out.size _).trans (hb2.mono (by simp; exact Nat.le_succ_of_le HB1.out.size))))
        | (go_at_call 12; refine (HK.out _).mono ?_; rintro e w3 ⟨rfl, hb3⟩))
      go_ret
      exact ⟨rfl, HB2.out.trans (hb3.mono HB2.out.size)⟩

set_option maxRecDepth 100000 in
set_option maxHeartbeats 8000000 in
theorem limits_31 (x : Int) (w : World) (hE : wrap64 ((IntKind.u64.wrap x).tmod 5) = 1) :
    Calls Try.prog 8 #[.int .i64 x] w fun e w' => e = .returned (.bool true) ∧ Below w.heap.size w w' := by
  have HK := Lib.hid known_any
  have HE := Lib.hid hE
  clear hE
  go_enter Try.func8, Try.ntmps8
  go_upto_region 2 with fail
  rw [HE.out, show wrap64 (30 + 1) = 31 from IntWalk.wrap64_in _ ⟨by decide, by decide⟩]
  clear HE
  have hmk : ∀ w, (Instr.makeSlice 26 (.int .i64 31) (.int .i64 31)).run Try.prog w = .ok (.slice (some ⟨w.heap.size, 0, none⟩) 31 31) (w.alloc (.cells (zeroR 31) 37)) := make_gen 31 (by decide)
  have HP := Lib.hid (fun w => (parse_any w (repA 31) (by decide)).mono fun e w' h => RetPar.out h (j := 0) (x := 0) rep_31.1 rep_31.2.1)
  have hl : (parseF (repA 31)).1.length = 31 := rep_31.2.2
  generalize (parseF (repA 31)).1 = pl at HP hl
  have HV := Lib.hid (fun w => valid_any (zeroL 31) (.slice (some ⟨w.heap.size, 0, none⟩) 31 31) (w.alloc (.cells (zeroR 31) 37)) (zero_rd w 31) (by show 31 ≤ _; decide))
  rw [show validF (zeroL 31) = 0 from rfl] at HV
  go_wp2_with fail
  go_loopg [3, 4] 31 (fun n sv iv wr => ∃ k : Nat, k ≤ 31 ∧ sv = .string (repA k) ∧ iv = .int .i64 k ∧ w = wr ∧ 31 - k ≤ n)
  case atStart => exact ⟨0, by omega, rfl, rfl, rfl, by omega⟩
  case round =>
    obtain ⟨k, hk, rfl, rfl, rfl, hgk⟩ := hrel
    by_cases hkl : k < 31
    · have hki : (k : Int) < 31 := by omega
      have hsz := rep_size k
      have HS := Lib.hid (rep_succ k)
      generalize repA k = u at hsz HS
      go_wp2_with fail
      go_roundg (31 - (k + 1))
      case measure => omega
      case rel => exact ⟨k + 1, by omega, by rw [HS.out], by go_num, rfl, Nat.le_refl _⟩
    · obtain rfl : k = 31 := by omega
      generalize repA 31 = u at HP
      have hki : ¬ ((31 : Nat) : Int) < 31 := by omega
      go_upto_region 8 with (go_at_call 14; refine (HP.out _).mono ?_; rintro e w1 ⟨v1, rfl, hown, hb1⟩)
      obtain ⟨A1, c1, hv1⟩ := own_shape hown
      rw [hl] at hv1
      subst hv1
      have HB1 := Lib.hid hb1
      clear hown hb1 HP
      go_wp2_with (first
        | (go_at_call 22; refine (HV.out _).mono ?_; rintro e w2 ⟨rfl, hb2⟩; have HB2 := Lib.hid ((HB1.out.alloc HB1.out.size _).trans (hb2.mono (by simp; exact Nat.le_succ_of_le HB1.out.size))))
        | (go_at_call 12; refine (HK.out _).mono ?_; rintro e w3 ⟨rfl, hb3⟩))
      go_ret
      exact ⟨rfl, HB2.out.trans (hb3.mono HB2.out.size)⟩

set_option maxRecDepth 100000 in
set_option maxHeartbeats 8000000 in
theorem limits_32 (x : Int) (w : World) (hE : wrap64 ((IntKind.u64.wrap x).tmod 5) = 2) :
    Calls Try.prog 8 #[.int .i64 x] w fun e w' => e = .returned (.bool true) ∧ Below w.heap.size w w' := by
  have HK := Lib.hid known_any
  have HE := Lib.hid hE
  clear hE
  go_enter Try.func8, Try.ntmps8
  go_upto_region 2 with fail
  rw [HE.out, show wrap64 (30 + 2) = 32 from IntWalk.wrap64_in _ ⟨by decide, by decide⟩]
  clear HE
  have hmk : ∀ w, (Instr.makeSlice 26 (.int .i64 32) (.int .i64 32)).run Try.prog w = .ok (.slice (some ⟨w.heap.size, 0, none⟩) 32 32) (w.alloc (.cells (zeroR 32) 37)) := make_gen 32 (by decide)
  have HP := Lib.hid (fun w => (parse_any w (repA 32) (by decide)).mono fun e w' h => RetPar.out h (j := 0) (x := 0) rep_32.1 rep_32.2.1)
  have hl : (parseF (repA 32)).1.length = 32 := rep_32.2.2
  generalize (parseF (repA 32)).1 = pl at HP hl
  have HV := Lib.hid (fun w => valid_any (zeroL 32) (.slice (some ⟨w.heap.size, 0, none⟩) 32 32) (w.alloc (.cells (zeroR 32) 37)) (zero_rd w 32) (by show 32 ≤ _; decide))
  rw [show validF (zeroL 32) = 0 from rfl] at HV
  go_wp2_with fail
  go_loopg [3, 4] 32 (fun n sv iv wr => ∃ k : Nat, k ≤ 32 ∧ sv = .string (repA k) ∧ iv = .int .i64 k ∧ w = wr ∧ 32 - k ≤ n)
  case atStart => exact ⟨0, by omega, rfl, rfl, rfl, by omega⟩
  case round =>
    obtain ⟨k, hk, rfl, rfl, rfl, hgk⟩ := hrel
    by_cases hkl : k < 32
    · have hki : (k : Int) < 32 := by omega
      have hsz := rep_size k
      have HS := Lib.hid (rep_succ k)
      generalize repA k = u at hsz HS
      go_wp2_with fail
      go_roundg (32 - (k + 1))
      case measure => omega
      case rel => exact ⟨k + 1, by omega, by rw [HS.out], by go_num, rfl, Nat.le_refl _⟩
    · obtain rfl : k = 32 := by omega
      generalize repA 32 = u at HP
      have hki : ¬ ((32 : Nat) : Int) < 32 := by omega
      go_upto_region 8 with (go_at_call 14; refine (HP.out _).mono ?_; rintro e w1 ⟨v1, rfl, hown, hb1⟩)
      obtain ⟨A1, c1, hv1⟩ := own_shape hown
      rw [hl] at hv1
      subst hv1
      have HB1 := Lib.hid hb1
      clear hown hb1 HP
      go_wp2_with (first
        | (go_at_call 22; refine (HV.out _).mono ?_; rintro e w2 ⟨rfl, hb2⟩; have HB2 := Lib.hid ((HB1.out.alloc HB1.out.size _).trans (hb2.mono (by simp; exact Nat.le_succ_of_le HB1.out.size))))
        | (go_at_call 12; refine (HK.out _).mono ?_; rintro e w3 ⟨rfl, hb3⟩))
      go_ret
      exact ⟨rfl, HB2.out.trans (hb3.mono HB2.out.size)⟩

set_option maxRecDepth 100000 in
set_option maxHeartbeats 8000000 in
theorem limits_33 (x : Int) (w : World) (hE : wrap64 ((IntKind.u64.wrap x).tmod 5) = 3) :
    Calls Try.prog 8 #[.int .i64 x] w fun e w' => e = .returned (.bool true) ∧ Below w.heap.size w w' := by
  have HK := Lib.hid known_any
  have HE := Lib.hid hE
  clear hE
  go_enter Try.func8, Try.ntmps8
  go_upto_region 2 with fail
  rw [HE.out, show wrap64 (30 + 3) = 33 from IntWalk.wrap64_in _ ⟨by decide, by decide⟩]
  clear HE
  have hmk : ∀ w, (Instr.makeSlice 26 (.int .i64 33) (.int .i64 33)).run Try.prog w = .ok (.slice (some ⟨w.heap.size, 0, none⟩) 33 33) (w.alloc (.cells (zeroR 33) 37)) := make_gen 33 (by decide)
  have HP := Lib.hid (fun w => (parse_any w (repA 33) (by decide)).mono fun e w' h => RetPar.out h (j := 64) (x := 3) rep_33.1 rep_33.2.1)
  have hl : (parseF (repA 33)).1.length = 0 := rep_33.2.2
  generalize (parseF (repA 33)).1 = pl at HP hl
  have HV := Lib.hid (fun w => valid_any (zeroL 33) (.slice (some ⟨w.heap.size, 0, none⟩) 33 33) (w.alloc (.cells (zeroR 33) 37)) (zero_rd w 33) (by show 33 ≤ _; decide))
  rw [show validF (zeroL 33) = 3 from rfl] at HV
  go_wp2_with fail
  go_loopg [3, 4] 33 (fun n sv iv wr => ∃ k : Nat, k ≤ 33 ∧ sv = .string (repA k) ∧ iv = .int .i64 k ∧ w = wr ∧ 33 - k ≤ n)
  case atStart => exact ⟨0, by omega, rfl, rfl, rfl, by omega⟩
  case round =>
    obtain ⟨k, hk, rfl, rfl, rfl, hgk⟩ := hrel
    by_cases hkl : k < 33
    · have hki : (k : Int) < 33 := by omega
      have hsz := rep_size k
      have HS := Lib.hid (rep_succ k)
      generalize repA k = u at hsz HS
      go_wp2_with fail
      go_roundg (33 - (k + 1))
      case measure => omega
      case rel => exact ⟨k + 1, by omega, by rw [HS.out], by go_num, rfl, Nat.le_refl _⟩
    · obtain rfl : k = 33 := by omega
      generalize repA 33 = u at HP
      have hki : ¬ ((33 : Nat) : Int) < 33 := by omega
      go_upto_region 8 with (go_at_call 14; refine (HP.out _).mono ?_; rintro e w1 ⟨v1, rfl, hown, hb1⟩)
      obtain ⟨A1, c1, hv1⟩ := own_shape hown
      rw [hl] at hv1
      subst hv1
      have HB1 := Lib.hid hb1
      clear hown hb1 HP
      go_wp2_with (first
        | (go_at_call 22; refine (HV.out _).mono ?_; rintro e w2 ⟨rfl, hb2⟩; have HB2 := Lib.hid ((HB1.out.alloc HB1.out.size _).trans (hb2.mono (by simp; exact Nat.le_succ_of_le HB1.out.size))))
        | (go_at_call 12; refine (HK.out _).mono ?_; rintro e w3 ⟨rfl, hb3⟩))
      go_ret
      exact ⟨rfl, HB2.out.trans (hb3.mono HB2.out.size)⟩

set_option maxRecDepth 100000 in
set_option maxHeartbeats 8000000 in
theorem limits_34 (x : Int) (w : World) (hE : wrap64 ((IntKind.u64.wrap x).tmod 5) = 4) :
    Calls Try.prog 8 #[.int .i64 x] w fun e w' => e = .returned (.bool true) ∧ Below w.heap.size w w' := by
  have HK := Lib.hid known_any
  have HE := Lib.hid hE
  clear hE
  go_enter Try.func8, Try.ntmps8
  go_upto_region 2 with fail
  rw [HE.out, show wrap64 (30 + 4) = 34 from IntWalk.wrap64_in _ ⟨by decide, by decide⟩]
  clear HE
  have hmk : ∀ w, (Instr.makeSlice 26 (.int .i64 34) (.int .i64 34)).run Try.prog w = .ok (.slice (some ⟨w.heap.size, 0, none⟩) 34 34) (w.alloc (.cells (zeroR 34) 37)) := make_gen 34 (by decide)
  have HP := Lib.hid (fun w => (parse_any w (repA 34) (by decide)).mono fun e w' h => RetPar.out h (j := 64) (x := 3) rep_34.1 rep_34.2.1)
  have hl : (parseF (repA 34)).1.length = 0 := rep_34.2.2
  generalize (parseF (repA 34)).1 = pl at HP hl
  have HV := Lib.hid (fun w => valid_any (zeroL 34) (.slice (some ⟨w.heap.size, 0, none⟩) 34 34) (w.alloc (.cells (zeroR 34) 37)) (zero_rd w 34) (by show 34 ≤ _; decide))
  rw [show validF (zeroL 34) = 3 from rfl] at HV
  go_wp2_with fail
  go_loopg [3, 4] 34 (fun n sv iv wr => ∃ k : Nat, k ≤ 34 ∧ sv = .string (repA k) ∧ iv = .int .i64 k ∧ w = wr ∧ 34 - k ≤ n)
  case atStart => exact ⟨0, by omega, rfl, rfl, rfl, by omega⟩
  case round =>
    obtain ⟨k, hk, rfl, rfl, rfl, hgk⟩ := hrel
    by_cases hkl : k < 34
    · have hki : (k : Int) < 34 := by omega
      have hsz := rep_size k
      have HS := Lib.hid (rep_succ k)
      generalize repA k = u at hsz HS
      go_wp2_with fail
      go_roundg (34 - (k + 1))
      case measure => omega
      case rel => exact ⟨k + 1, by omega, by rw [HS.out], by go_num, rfl, Nat.le_refl _⟩
    · obtain rfl : k = 34 := by omega
      generalize repA 34 = u at HP
      have hki : ¬ ((34 : Nat) : Int) < 34 := by omega
      go_upto_region 8 with (go_at_call 14; refine (HP.out _).mono ?_; rintro e w1 ⟨v1, rfl, hown, hb1⟩)
      obtain ⟨A1, c1, hv1⟩ := own_shape hown
      rw [hl] at hv1
      subst hv1
      have HB1 := Lib.hid hb1
      clear hown hb1 HP
      go_wp2_with (first
        | (go_at_call 22; refine (HV.out _).mono ?_; rintro e w2 ⟨rfl, hb2⟩; have HB2 := Lib.hid ((HB1.out.alloc HB1.out.size _).trans (hb2.mono (by simp; exact Nat.le_succ_of_le HB1.out.size))))
        | (go_at_call 12; refine (HK.out _).mono ?_; rintro e w3 ⟨rfl, hb3⟩))
      go_ret
      exact ⟨rfl, HB2.out.trans (hb3.mono HB2.out.size)⟩

theorem walk_PatternLimits (x : Int) (w : World) (_hx : (Lit.int .i64 x).wf = true) :
    Calls Try.prog 8 #[.int .i64 x] w fun e w' => e = .returned (.bool true) ∧ Below w.heap.size w w' := by
  obtain ⟨k0, hk0, hk0e⟩ := uint_rem x 5 (by omega) (by omega)
  rcases (show k0 = 0 ∨ k0 = 1 ∨ k0 = 2 ∨ k0 = 3 ∨ k0 = 4 by omega) with rfl | rfl | rfl | rfl | rfl
  · exact limits_30 x w hk0e
  · exact limits_31 x w hk0e
  · exact limits_32 x w hk0e
  · exact limits_33 x w hk0e
  · exact limits_34 x w hk0e

end Go.Proofs.Ytanpiidhcijfaaa
