
/-
  The statement PatternRanges: the walk.
-/
import Derived.Test.YtanpiidhcijfaaaLaw5A
import Derived.Test.YtanpiidhcijfaaaMatchC
import Derived.Test.YtanpiidhcijfaaaMathRange
import Derived.Test.YtanpiidhcijfaaaPatternSets
import Derived.Deep.RegionWith
namespace Go.Proofs.Ytanpiidhcijfaaa
open Go.RowKit

theorem run_string_of_3 {P : Program} (src dst e : TypeId) (hs : P.underlying src = some (.slice e)) (he : P.underlying e = some (.int .u8)) (hd : P.underlying dst = some .string) (a c : Nat) (ha : a < 26) (hc : c < 26) (w : World) :
    (convert src dst (.slice (some ⟨w.heap.size, 0, none⟩) 3 3)).run P (w.alloc (.cells #[.int .u8 (97 + (a : Int)), .int .u8 45, .int .u8 (97 + (c : Int))] e)) = .ok (.string ⟨#[UInt8.ofNat (97 + a), 45, UInt8.ofNat (97 + c)]⟩) (w.alloc (.cells #[.int .u8 (97 + (a : Int)), .int .u8 45, .int .u8 (97 + (c : Int))] e)) := by
  refine run_convert_bytes_back (w.alloc (.cells #[.int .u8 (97 + (a : Int)), .int .u8 45, .int .u8 (97 + (c : Int))] e)) src dst e ⟨w.heap.size, 0, none⟩ 3 [UInt8.ofNat (97 + a), 45, UInt8.ofNat (97 + c)] hs he hd (fun j hj => ?_)
  have hj3 : j < 3 := hj
  rcases (show j = 0 ∨ j = 1 ∨ j = 2 by omega) with rfl | rfl | rfl
  · rw [cells_new w [.int .u8 (97 + (a : Int)), .int .u8 45, .int .u8 (97 + (c : Int))] e 0 (.int .u8 (97 + (a : Int))) rfl]
    congr 2
    simp only [List.getElem_cons_zero, UInt8.toNat_ofNat']
    omega
  · rw [cells_new w [.int .u8 (97 + (a : Int)), .int .u8 45, .int .u8 (97 + (c : Int))] e 1 (.int .u8 45) rfl]
    rfl
  · rw [cells_new w [.int .u8 (97 + (a : Int)), .int .u8 45, .int .u8 (97 + (c : Int))] e 2 (.int .u8 (97 + (c : Int))) rfl]
    congr 2
    simp only [List.getElem_cons_succ, List.getElem_cons_zero, UInt8.toNat_ofNat']
    omega
theorem rg_join (x y : Nat) : (⟨#[91]⟩ : ByteArray) ++ (⟨#[97 + UInt8.ofNat x, 45, 97 + UInt8.ofNat y]⟩ : ByteArray) ++ (⟨#[93]⟩ : ByteArray) = rgS x y := by
  unfold rgS
  rw [UInt8.ofNat_add, UInt8.ofNat_add]
  rfl
theorem rg_not (x y : Nat) : (⟨#[91, 94]⟩ : ByteArray) ++ (rgS x y).extract 1 5 = rgN x y := rfl


set_option maxRecDepth 100000 in
set_option maxHeartbeats 16000000 in
theorem ranges_true (x y : Int) (X Y b : Nat) (w : World) (hx : IntIn x) (hy : IntIn y) (hX : x % 26 = (X : Int)) (hY : y % 26 = (Y : Int)) (hXl : X < 26) (hYl : Y < 26) (hb : b < 256) :
    Calls Try.prog 5 #[.int .i64 x, .int .i64 y, .int .u8 b, .bool true] w fun e w' => e = .returned (.bool true) ∧ Below w.heap.size w w' := by
  have HK := Lib.hid known_any
  have HX := Lib.hid (fun w => place_any x 26 w hx (by decide) (by decide))
  have HY := Lib.hid (fun w => place_any y 26 w hy (by decide) (by decide))
  rw [hX] at HX
  rw [hY] at HY
  clear hX hY hx hy
  have hX0 : (X : Int) < 26 := by omega
  have hY0 : (Y : Int) < 26 := by omega
  go_enter Try.func5, Try.ntmps5
  go_upto_region 2 with (first | (go_at_call_of 17 (Value.int .i64 x); refine (HX.out _).mono ?_; rintro e w' ⟨rfl, rfl⟩) | (go_at_call_of 17 (Value.int .i64 y); refine (HY.out _).mono ?_; rintro e w' ⟨rfl, rfl⟩))
  clear HX HY
  have hcv := run_string_of_3 (P := Try.prog) 39 9 5 Try.underlying39 Try.underlying5 Try.underlying9 X Y hXl hYl w
  have HB0 := Lib.hid ((Below.refl w.heap.size w).alloc (Nat.le_refl _) (.cells #[.int .u8 (97 + (X : Int)), .int .u8 45, .int .u8 (97 + (Y : Int))] 5))
  generalize hww : w.alloc (.cells #[.int .u8 (97 + (X : Int)), .int .u8 45, .int .u8 (97 + (Y : Int))] 5) = w0 at HB0
  rw [hww] at hcv
  go_upto_region 5 with fail
  skip
  rw [rg_join, rg_not]
  clear hcv hww
  have hSl : (rgN X Y).size = 6 := rfl
  have HPA := Lib.hid (fun w => parse_any w (rgN X Y) (by rw [hSl]; decide))
  rw [parse_rgN X Y hXl hYl] at HPA
  generalize rgN X Y = S at HPA hSl
  by_cases hyx : Y < X
  · have hyxi : (X : Int) > (Y : Int) := by omega
    rw [if_pos hyx] at HPA
    go_upto_region 6 with (go_at_call 14; refine (HPA.out _).mono ?_; rintro e w1 ⟨v1, rfl, ho1, hb1⟩)
    obtain ⟨A1, c1, hv1⟩ := own_shape ho1
    subst hv1
    have HB1 := Lib.hid (HB0.out.trans (hb1.mono HB0.out.size))
    clear ho1 hb1 HPA
    go_wp2_with (go_at_call 12; refine (HK.out _).mono ?_; rintro e w8 ⟨rfl, hb8⟩)
    go_ret
    exact ⟨rfl, HB1.out.trans (hb8.mono HB1.out.size)⟩
  · have hyxi : ¬ (X : Int) > (Y : Int) := by omega
    rw [if_neg hyx] at HPA
    obtain ⟨X0, HX0⟩ : ∃ X0 : At, Hid (X0 = ⟨notP (rgP (97 + X) (97 + Y)), 1, false⟩) := ⟨⟨notP (rgP (97 + X) (97 + Y)), 1, false⟩, rfl⟩
    rw [← HX0.out] at HPA
    go_upto_region 6 with (go_at_call 14; refine (HPA.out _).mono ?_; rintro e w1 ⟨v1, rfl, ho1, hb1⟩)
    have HR1 := Lib.hid (OwnE.rd atC_len ho1)
    obtain ⟨A1, c1, hv1⟩ := own_shape ho1
    subst hv1
    have HB3 := Lib.hid (HB0.out.trans (hb1.mono HB0.out.size))
    clear ho1 hb1 HPA
    obtain ⟨b0, o0, rfl, hl0, hc0⟩ := HR1.out.cells Nat.zero_lt_one
    have HG0 : Hid (w1.rangeAt b0 o0 (atC X0)) := fun j v hj => by
      have := hc0 0 X0 j v rfl hj
      rw [Nat.zero_mul, Nat.zero_add] at this
      exact this
    clear hc0 HR1
    have hu := Try.underlying37
    have hi : (Try.prog.info? 37).map (·.size) = some 34 := atom_size
    by_cases hlo : 97 + X ≤ b
    · have hloi : (97 + (X : Int)) ≤ (b : Int) := by omega
      by_cases hhi : b ≤ 97 + Y
      · have hhii : (b : Int) ≤ (97 + (Y : Int)) := by omega
        have HC0 : Hid (∀ w, Calls Try.prog 18 #[.agg (atC X0).toArray, .int .u8 b] w fun e w' => e = .returned (.bool false) ∧ Below w.heap.size w w') := fun w => by
          have h := contains_any X0 b w hb
          rw [show X0.p b = false by rw [HX0.out]; show (!(rgP _ _ b)) = _; rw [rgP_at]; rw [decide_eq_true (by omega)]; rfl] at h
          exact h
        clear HX0
        go_wp2_with (first
          | (refine wpList_load_mid_g rfl 37 (.tmp 79) rfl b0 o0 rfl (atC X0) _ HG0.out hu rfl (by rw [hi, atC_len]) ?_)
          | (go_at_call 18; refine (HC0.out _).mono ?_; rintro e w4 ⟨rfl, hb4⟩; have HB4 := Lib.hid (HB3.out.trans (hb4.mono HB3.out.size)); clear hb4)
          | (go_at_call 12; refine (HK.out _).mono ?_; rintro e w8 ⟨rfl, hb8⟩))
        go_ret
        exact ⟨rfl, HB4.out.trans (hb8.mono HB4.out.size)⟩
      · have hhii : ¬ (b : Int) ≤ (97 + (Y : Int)) := by omega
        have HC0 : Hid (∀ w, Calls Try.prog 18 #[.agg (atC X0).toArray, .int .u8 b] w fun e w' => e = .returned (.bool true) ∧ Below w.heap.size w w') := fun w => by
          have h := contains_any X0 b w hb
          rw [show X0.p b = true by rw [HX0.out]; show (!(rgP _ _ b)) = _; rw [rgP_at]; rw [decide_eq_false (by omega)]; rfl] at h
          exact h
        clear HX0
        go_wp2_with (first
          | (refine wpList_load_mid_g rfl 37 (.tmp 79) rfl b0 o0 rfl (atC X0) _ HG0.out hu rfl (by rw [hi, atC_len]) ?_)
          | (go_at_call 18; refine (HC0.out _).mono ?_; rintro e w4 ⟨rfl, hb4⟩; have HB4 := Lib.hid (HB3.out.trans (hb4.mono HB3.out.size)); clear hb4)
          | (go_at_call 12; refine (HK.out _).mono ?_; rintro e w8 ⟨rfl, hb8⟩))
        go_ret
        exact ⟨rfl, HB4.out.trans (hb8.mono HB4.out.size)⟩
    · have hloi : ¬ (97 + (X : Int)) ≤ (b : Int) := by omega
      have HC0 : Hid (∀ w, Calls Try.prog 18 #[.agg (atC X0).toArray, .int .u8 b] w fun e w' => e = .returned (.bool true) ∧ Below w.heap.size w w') := fun w => by
        have h := contains_any X0 b w hb
        rw [show X0.p b = true by rw [HX0.out]; show (!(rgP _ _ b)) = _; rw [rgP_at]; rw [decide_eq_false (by omega)]; rfl] at h
        exact h
      clear HX0
      go_wp2_with (first
        | (refine wpList_load_mid_g rfl 37 (.tmp 79) rfl b0 o0 rfl (atC X0) _ HG0.out hu rfl (by rw [hi, atC_len]) ?_)
        | (go_at_call 18; refine (HC0.out _).mono ?_; rintro e w4 ⟨rfl, hb4⟩; have HB4 := Lib.hid (HB3.out.trans (hb4.mono HB3.out.size)); clear hb4)
        | (go_at_call 12; refine (HK.out _).mono ?_; rintro e w8 ⟨rfl, hb8⟩))
      go_ret
      exact ⟨rfl, HB4.out.trans (hb8.mono HB4.out.size)⟩

set_option maxRecDepth 100000 in
set_option maxHeartbeats 16000000 in
theorem ranges_false (x y : Int) (X Y b : Nat) (w : World) (hx : IntIn x) (hy : IntIn y) (hX : x % 26 = (X : Int)) (hY : y % 26 = (Y : Int)) (hXl : X < 26) (hYl : Y < 26) (hb : b < 256) :
    Calls Try.prog 5 #[.int .i64 x, .int .i64 y, .int .u8 b, .bool false] w fun e w' => e = .returned (.bool true) ∧ Below w.heap.size w w' := by
  have HK := Lib.hid known_any
  have HX := Lib.hid (fun w => place_any x 26 w hx (by decide) (by decide))
  have HY := Lib.hid (fun w => place_any y 26 w hy (by decide) (by decide))
  rw [hX] at HX
  rw [hY] at HY
  clear hX hY hx hy
  have hX0 : (X : Int) < 26 := by omega
  have hY0 : (Y : Int) < 26 := by omega
  go_enter Try.func5, Try.ntmps5
  go_upto_region 2 with (first | (go_at_call_of 17 (Value.int .i64 x); refine (HX.out _).mono ?_; rintro e w' ⟨rfl, rfl⟩) | (go_at_call_of 17 (Value.int .i64 y); refine (HY.out _).mono ?_; rintro e w' ⟨rfl, rfl⟩))
  clear HX HY
  have hcv := run_string_of_3 (P := Try.prog) 39 9 5 Try.underlying39 Try.underlying5 Try.underlying9 X Y hXl hYl w
  have HB0 := Lib.hid ((Below.refl w.heap.size w).alloc (Nat.le_refl _) (.cells #[.int .u8 (97 + (X : Int)), .int .u8 45, .int .u8 (97 + (Y : Int))] 5))
  generalize hww : w.alloc (.cells #[.int .u8 (97 + (X : Int)), .int .u8 45, .int .u8 (97 + (Y : Int))] 5) = w0 at HB0
  rw [hww] at hcv
  go_upto_region 5 with fail
  skip
  rw [rg_join]
  clear hcv hww
  have hSl : (rgS X Y).size = 5 := rfl
  have HPA := Lib.hid (fun w => parse_any w (rgS X Y) (by rw [hSl]; decide))
  rw [parse_rgS X Y hXl hYl] at HPA
  generalize rgS X Y = S at HPA hSl
  by_cases hyx : Y < X
  · have hyxi : (X : Int) > (Y : Int) := by omega
    rw [if_pos hyx] at HPA
    go_upto_region 6 with (go_at_call 14; refine (HPA.out _).mono ?_; rintro e w1 ⟨v1, rfl, ho1, hb1⟩)
    obtain ⟨A1, c1, hv1⟩ := own_shape ho1
    subst hv1
    have HB1 := Lib.hid (HB0.out.trans (hb1.mono HB0.out.size))
    clear ho1 hb1 HPA
    go_wp2_with (go_at_call 12; refine (HK.out _).mono ?_; rintro e w8 ⟨rfl, hb8⟩)
    go_ret
    exact ⟨rfl, HB1.out.trans (hb8.mono HB1.out.size)⟩
  · have hyxi : ¬ (X : Int) > (Y : Int) := by omega
    rw [if_neg hyx] at HPA
    obtain ⟨X0, HX0⟩ : ∃ X0 : At, Hid (X0 = ⟨rgP (97 + X) (97 + Y), 1, false⟩) := ⟨⟨rgP (97 + X) (97 + Y), 1, false⟩, rfl⟩
    rw [← HX0.out] at HPA
    go_upto_region 6 with (go_at_call 14; refine (HPA.out _).mono ?_; rintro e w1 ⟨v1, rfl, ho1, hb1⟩)
    have HR1 := Lib.hid (OwnE.rd atC_len ho1)
    obtain ⟨A1, c1, hv1⟩ := own_shape ho1
    subst hv1
    have HB3 := Lib.hid (HB0.out.trans (hb1.mono HB0.out.size))
    clear ho1 hb1 HPA
    obtain ⟨b0, o0, rfl, hl0, hc0⟩ := HR1.out.cells Nat.zero_lt_one
    have HG0 : Hid (w1.rangeAt b0 o0 (atC X0)) := fun j v hj => by
      have := hc0 0 X0 j v rfl hj
      rw [Nat.zero_mul, Nat.zero_add] at this
      exact this
    clear hc0 HR1
    have hu := Try.underlying37
    have hi : (Try.prog.info? 37).map (·.size) = some 34 := atom_size
    by_cases hlo : 97 + X ≤ b
    · have hloi : (97 + (X : Int)) ≤ (b : Int) := by omega
      by_cases hhi : b ≤ 97 + Y
      · have hhii : (b : Int) ≤ (97 + (Y : Int)) := by omega
        have HC0 : Hid (∀ w, Calls Try.prog 18 #[.agg (atC X0).toArray, .int .u8 b] w fun e w' => e = .returned (.bool true) ∧ Below w.heap.size w w') := fun w => by
          have h := contains_any X0 b w hb
          rw [show X0.p b = true by rw [HX0.out]; show rgP _ _ b = _; rw [rgP_at]; rw [decide_eq_true (by omega)]] at h
          exact h
        clear HX0
        go_wp2_with (first
          | (refine wpList_load_mid_g rfl 37 (.tmp 79) rfl b0 o0 rfl (atC X0) _ HG0.out hu rfl (by rw [hi, atC_len]) ?_)
          | (go_at_call 18; refine (HC0.out _).mono ?_; rintro e w4 ⟨rfl, hb4⟩; have HB4 := Lib.hid (HB3.out.trans (hb4.mono HB3.out.size)); clear hb4)
          | (go_at_call 12; refine (HK.out _).mono ?_; rintro e w8 ⟨rfl, hb8⟩))
        go_ret
        exact ⟨rfl, HB4.out.trans (hb8.mono HB4.out.size)⟩
      · have hhii : ¬ (b : Int) ≤ (97 + (Y : Int)) := by omega
        have HC0 : Hid (∀ w, Calls Try.prog 18 #[.agg (atC X0).toArray, .int .u8 b] w fun e w' => e = .returned (.bool false) ∧ Below w.heap.size w w') := fun w => by
          have h := contains_any X0 b w hb
          rw [show X0.p b = false by rw [HX0.out]; show rgP _ _ b = _; rw [rgP_at]; rw [decide_eq_false (by omega)]] at h
          exact h
        clear HX0
        go_wp2_with (first
          | (refine wpList_load_mid_g rfl 37 (.tmp 79) rfl b0 o0 rfl (atC X0) _ HG0.out hu rfl (by rw [hi, atC_len]) ?_)
          | (go_at_call 18; refine (HC0.out _).mono ?_; rintro e w4 ⟨rfl, hb4⟩; have HB4 := Lib.hid (HB3.out.trans (hb4.mono HB3.out.size)); clear hb4)
          | (go_at_call 12; refine (HK.out _).mono ?_; rintro e w8 ⟨rfl, hb8⟩))
        go_ret
        exact ⟨rfl, HB4.out.trans (hb8.mono HB4.out.size)⟩
    · have hloi : ¬ (97 + (X : Int)) ≤ (b : Int) := by omega
      have HC0 : Hid (∀ w, Calls Try.prog 18 #[.agg (atC X0).toArray, .int .u8 b] w fun e w' => e = .returned (.bool false) ∧ Below w.heap.size w w') := fun w => by
        have h := contains_any X0 b w hb
        rw [show X0.p b = false by rw [HX0.out]; show rgP _ _ b = _; rw [rgP_at]; rw [decide_eq_false (by omega)]] at h
        exact h
      clear HX0
      go_wp2_with (first
        | (refine wpList_load_mid_g rfl 37 (.tmp 79) rfl b0 o0 rfl (atC X0) _ HG0.out hu rfl (by rw [hi, atC_len]) ?_)
        | (go_at_call 18; refine (HC0.out _).mono ?_; rintro e w4 ⟨rfl, hb4⟩; have HB4 := Lib.hid (HB3.out.trans (hb4.mono HB3.out.size)); clear hb4)
        | (go_at_call 12; refine (HK.out _).mono ?_; rintro e w8 ⟨rfl, hb8⟩))
      go_ret
      exact ⟨rfl, HB4.out.trans (hb8.mono HB4.out.size)⟩

theorem walk_PatternRanges (x y z : Int) (nt : Bool) (w : World) (hx0 : (Lit.int .i64 x).wf = true) (hy0 : (Lit.int .i64 y).wf = true) (hz0 : (Lit.int .u8 z).wf = true) :
    Calls Try.prog 5 #[.int .i64 x, .int .i64 y, .int .u8 z, .bool nt] w fun e w' => e = .returned (.bool true) ∧ Below w.heap.size w w' := by
  have hx : IntIn x := by simpa [Lit.wf, IntKind.min, IntKind.max, IntKind.signed, IntKind.bits, IntIn] using hx0
  have hy : IntIn y := by simpa [Lit.wf, IntKind.min, IntKind.max, IntKind.signed, IntKind.bits, IntIn] using hy0
  have hz : 0 ≤ z ∧ z < 256 := by
    have h := hz0
    simp [Lit.wf, IntKind.min, IntKind.max, IntKind.signed, IntKind.bits] at h
    omega
  obtain ⟨b, rfl⟩ : ∃ b : Nat, z = (b : Int) := ⟨z.toNat, by omega⟩
  have hX1 := Int.emod_nonneg x (show (26 : Int) ≠ 0 by decide)
  have hX2 := Int.emod_lt_of_pos x (show (0 : Int) < 26 by decide)
  have hY1 := Int.emod_nonneg y (show (26 : Int) ≠ 0 by decide)
  have hY2 := Int.emod_lt_of_pos y (show (0 : Int) < 26 by decide)
  cases nt with
  | true => exact ranges_true x y (x % 26).toNat (y % 26).toNat b w hx hy (by omega) (by omega) (by omega) (by omega) (by omega)
  | false => exact ranges_false x y (x % 26).toNat (y % 26).toNat b w hx hy (by omega) (by omega) (by omega) (by omega) (by omega)

end Go.Proofs.Ytanpiidhcijfaaa
