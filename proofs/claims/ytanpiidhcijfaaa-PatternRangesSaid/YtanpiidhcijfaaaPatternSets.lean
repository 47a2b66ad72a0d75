
/-
  The statement PatternSets: the walk.
-/
import Derived.Test.YtanpiidhcijfaaaLaw5A
import Derived.Test.YtanpiidhcijfaaaMatchC
import Derived.Deep.RegionWith
namespace Go.Proofs.Ytanpiidhcijfaaa
open Go.RowKit

theorem ps_0_0 : parseF (⟨#[92, 115]⟩ : ByteArray) = ([⟨kindP 2, 1, false⟩], 0, 0) := by rfl
theorem ps_0_1 : parseF (⟨#[92, 83]⟩ : ByteArray) = ([⟨notP (kindP 2), 1, false⟩], 0, 0) := by rfl
theorem ps_0_2 : parseF (⟨#[91, 92, 115, 93]⟩ : ByteArray) = ([⟨orP noP (kindP 2), 1, false⟩], 0, 0) := by rfl
theorem ps_1_0 : parseF (⟨#[92, 100]⟩ : ByteArray) = ([⟨kindP 3, 1, false⟩], 0, 0) := by rfl
theorem ps_1_1 : parseF (⟨#[92, 68]⟩ : ByteArray) = ([⟨notP (kindP 3), 1, false⟩], 0, 0) := by rfl
theorem ps_1_2 : parseF (⟨#[91, 92, 100, 93]⟩ : ByteArray) = ([⟨orP noP (kindP 3), 1, false⟩], 0, 0) := by rfl
theorem ps_2_0 : parseF (⟨#[92, 108]⟩ : ByteArray) = ([⟨kindP 4, 1, false⟩], 0, 0) := by rfl
theorem ps_2_1 : parseF (⟨#[92, 76]⟩ : ByteArray) = ([⟨notP (kindP 4), 1, false⟩], 0, 0) := by rfl
theorem ps_2_2 : parseF (⟨#[91, 92, 108, 93]⟩ : ByteArray) = ([⟨orP noP (kindP 4), 1, false⟩], 0, 0) := by rfl
theorem ps_3_0 : parseF (⟨#[92, 99]⟩ : ByteArray) = ([⟨kindP 1, 1, false⟩], 0, 0) := by rfl
theorem ps_3_1 : parseF (⟨#[92, 67]⟩ : ByteArray) = ([⟨notP (kindP 1), 1, false⟩], 0, 0) := by rfl
theorem ps_3_2 : parseF (⟨#[91, 92, 99, 93]⟩ : ByteArray) = ([⟨orP noP (kindP 1), 1, false⟩], 0, 0) := by rfl
theorem ps_4_0 : parseF (⟨#[92, 109]⟩ : ByteArray) = ([⟨kindP 5, 1, false⟩], 0, 0) := by rfl
theorem ps_4_1 : parseF (⟨#[92, 77]⟩ : ByteArray) = ([⟨notP (kindP 5), 1, false⟩], 0, 0) := by rfl
theorem ps_4_2 : parseF (⟨#[91, 92, 109, 93]⟩ : ByteArray) = ([⟨orP noP (kindP 5), 1, false⟩], 0, 0) := by rfl
theorem ps_5_0 : parseF (⟨#[92, 117]⟩ : ByteArray) = ([⟨kindP 0, 1, false⟩], 0, 0) := by rfl
theorem ps_5_1 : parseF (⟨#[92, 85]⟩ : ByteArray) = ([⟨notP (kindP 0), 1, false⟩], 0, 0) := by rfl
theorem ps_5_2 : parseF (⟨#[91, 92, 117, 93]⟩ : ByteArray) = ([⟨orP noP (kindP 0), 1, false⟩], 0, 0) := by rfl

/-- A load of a whole row behind a guard that holds. -/
theorem wpList_wanted {P : Program} {ops : Array Oper} {Q : Exit → Act → World → Prop} {a : Act} {w : World} {rest : List Oper} {o : Oper} (hw : Region.wanted o (yielded ops a.tmps) = true)
    (h : ∀ K : Act → World → Prop, (∀ a w, wpList P ops Q rest a w → K a w) → o.wp P a w K Q) : wpList P ops Q (o :: rest) a w :=
  wpList_step fun K hK => by rw [if_pos hw]; exact h K hK
theorem wpList_load_mid_g {P : Program} {ops : Array Oper} {rest : List Oper} {op : Oper} {a : Act} {w : World} {Q : Exit → Act → World → Prop} (hgd : Region.wanted op (yielded ops a.tmps) = true) (ty : TypeId) (x : Operand) (ho : op.op = .load ty x)
    (b o : Nat) (hx : a.eval x = .pointer (some ⟨b, o, none⟩)) (cs : List Value) (d : TypeDesc) (hc : w.rangeAt b o cs)
    (hu : P.underlying ty = some d) (hd : d.isRow = true) (hi : (P.info? ty).map (·.size) = some cs.length)
    (h : wpList P ops Q rest (a.put op.dst (.agg cs.toArray)) w) : wpList P ops Q (op :: rest) a w :=
  wpList_wanted hgd fun _ hK => wp_load_mid ty x ho b o hx cs d hc hu hd hi (hK _ _ h)
theorem match_byte (x : At) (b : Nat) (hb : b < 256) (hm : x.mn = 1) (hy : x.many = false) : matchF [x] (⟨#[UInt8.ofNat ((b : Int)).toNat]⟩ : ByteArray) = x.p b := by
  have e : bt (⟨#[UInt8.ofNat ((b : Int)).toNat]⟩ : ByteArray) 0 = b := by
    show (UInt8.ofNat ((b : Int)).toNat).toNat = b
    rw [UInt8.toNat_ofNat', Int.toNat_natCast]
    omega
  show advF x _ startF 1 = x.p b
  unfold advF
  rw [show nxF x (⟨#[UInt8.ofNat ((b : Int)).toNat]⟩ : ByteArray) startF 1 = ((startF 0 || (x.many && false)) && x.p (bt (⟨#[UInt8.ofNat ((b : Int)).toNat]⟩ : ByteArray) 0)) from rfl, e, hm]
  simp [startF]

set_option maxRecDepth 100000 in
set_option maxHeartbeats 16000000 in
theorem sets_0 (x : Int) (b : Nat) (w : World) (hx : IntIn x) (hb : b < 256) (hz : x % 6 = 0) :
    Calls Try.prog 4 #[.int .i64 x, .int .u8 b] w fun e w' => e = .returned (.bool true) ∧ Below w.heap.size w w' := by
  have HK := Lib.hid known_any
  have HPL := Lib.hid (fun w => place_any x 6 w hx (by decide) (by decide))
  rw [hz] at HPL
  clear hz
  have hcv := fun (w : World) => run_string_of_byte (P := Try.prog) 39 9 5 Try.underlying39 Try.underlying5 Try.underlying9 b (by omega) (by omega) w
  go_enter Try.func4, Try.ntmps4
  go_upto_region 2 with (go_at_call 17; refine (HPL.out _).mono ?_; rintro e w' ⟨rfl, rfl⟩)
  clear HPL
  obtain ⟨X0, HX0⟩ : ∃ X : At, Hid (X = ⟨kindP 2, 1, false⟩) := ⟨⟨kindP 2, 1, false⟩, rfl⟩
  have HP0 : Hid (∀ w, Calls Try.prog 14 #[.string ⟨#[92, 115]⟩] w fun e w' => ∃ v, e = .returned (.tuple #[v, .int .i64 0, .int .i64 0]) ∧ OwnE 37 atC 34 w' w.heap.size v [X0] ∧ Below w.heap.size w w') := fun w => by
    have h := parse_any w (⟨#[92, 115]⟩ : ByteArray) (by decide)
    rw [ps_0_0, ← HX0.out] at h
    exact h
  obtain ⟨X1, HX1⟩ : ∃ X : At, Hid (X = ⟨notP (kindP 2), 1, false⟩) := ⟨⟨notP (kindP 2), 1, false⟩, rfl⟩
  have HP1 : Hid (∀ w, Calls Try.prog 14 #[.string ⟨#[92, 83]⟩] w fun e w' => ∃ v, e = .returned (.tuple #[v, .int .i64 0, .int .i64 0]) ∧ OwnE 37 atC 34 w' w.heap.size v [X1] ∧ Below w.heap.size w w') := fun w => by
    have h := parse_any w (⟨#[92, 83]⟩ : ByteArray) (by decide)
    rw [ps_0_1, ← HX1.out] at h
    exact h
  obtain ⟨X2, HX2⟩ : ∃ X : At, Hid (X = ⟨orP noP (kindP 2), 1, false⟩) := ⟨⟨orP noP (kindP 2), 1, false⟩, rfl⟩
  have HP2 : Hid (∀ w, Calls Try.prog 14 #[.string ⟨#[91, 92, 115, 93]⟩] w fun e w' => ∃ v, e = .returned (.tuple #[v, .int .i64 0, .int .i64 0]) ∧ OwnE 37 atC 34 w' w.heap.size v [X2] ∧ Below w.heap.size w w') := fun w => by
    have h := parse_any w (⟨#[91, 92, 115, 93]⟩ : ByteArray) (by decide)
    rw [ps_0_2, ← HX2.out] at h
    exact h
  obtain ⟨px, HPX⟩ : ∃ px : Bool, Hid (px = kindP 2 b) := ⟨kindP 2 b, rfl⟩
  have HC0 : Hid (∀ w, Calls Try.prog 18 #[.agg (atC X0).toArray, .int .u8 b] w fun e w' => e = .returned (.bool px) ∧ Below w.heap.size w w') := fun w => by
    have h := contains_any X0 b w hb
    rw [show X0.p b = px by rw [HX0.out, HPX.out]] at h
    exact h
  have HC1 : Hid (∀ w, Calls Try.prog 18 #[.agg (atC X1).toArray, .int .u8 b] w fun e w' => e = .returned (.bool (!px)) ∧ Below w.heap.size w w') := fun w => by
    have h := contains_any X1 b w hb
    rw [show X1.p b = !px by rw [HX1.out, HPX.out]; rfl] at h
    exact h
  have HC2 : Hid (∀ w, Calls Try.prog 18 #[.agg (atC X2).toArray, .int .u8 b] w fun e w' => e = .returned (.bool px) ∧ Below w.heap.size w w') := fun w => by
    have h := contains_any X2 b w hb
    rw [show X2.p b = px by rw [HX2.out, HPX.out]; rfl] at h
    exact h
  have HMM : Hid (matchF [X0] (⟨#[UInt8.ofNat ((b : Int)).toNat]⟩ : ByteArray) = px) := by
    show _ = _
    rw [match_byte X0 b hb (by rw [HX0.out]) (by rw [HX0.out]), HX0.out, HPX.out]
  clear HX0 HX1 HX2 HPX
  go_upto_region 3 with (go_at_call 14; refine (HP0.out _).mono ?_; rintro e w1 ⟨v0, rfl, ho0, hb0⟩)
  have HR0 := Lib.hid (OwnE.rd atC_len ho0)
  obtain ⟨A0, c0, hv0⟩ := own_shape ho0
  have HB0 := Lib.hid (((Below.refl w.heap.size w).alloc (Nat.le_refl _) _).trans (hb0.mono (by simp)))
  clear ho0 hb0
  go_upto_region 4 with (go_at_call 14; refine (HP1.out _).mono ?_; rintro e w2 ⟨v1, rfl, ho1, hb1⟩)
  have HR1 := Lib.hid (OwnE.rd atC_len ho1)
  obtain ⟨A1, c1, hv1⟩ := own_shape ho1
  have HW1 := Lib.hid (((Below.refl w1.heap.size w1).alloc (Nat.le_refl _) _).trans (hb1.mono (by simp)))
  clear ho1 hb1
  go_upto_region 5 with (go_at_call 14; refine (HP2.out _).mono ?_; rintro e w3 ⟨v2, rfl, ho2, hb2⟩)
  have HR2 := Lib.hid (OwnE.rd atC_len ho2)
  obtain ⟨A2, c2, hv2⟩ := own_shape ho2
  have HW2 := Lib.hid (((Below.refl w2.heap.size w2).alloc (Nat.le_refl _) _).trans (hb2.mono (by simp)))
  clear ho2 hb2 HP0 HP1 HP2
  subst hv0 hv1 hv2
  have HQ0 := Lib.hid ((HR0.out.below HW1.out (Nat.le_refl _)).below HW2.out (Nat.le_refl _))
  have HQ1 := Lib.hid (HR1.out.below HW2.out (Nat.le_refl _))
  have HB3 := Lib.hid ((HB0.out.trans (HW1.out.mono HB0.out.size)).trans (HW2.out.mono (Nat.le_trans HB0.out.size HW1.out.size)))
  have hz3 := HB3.out.size
  clear HR0 HR1 HB0 HW1 HW2
  obtain ⟨b0, o0, rfl, hl0, hc0⟩ := HQ0.out.cells Nat.zero_lt_one
  obtain ⟨b1, o1, rfl, hl1, hc1⟩ := HQ1.out.cells Nat.zero_lt_one
  obtain ⟨b2, o2, rfl, hl2, hc2⟩ := HR2.out.cells Nat.zero_lt_one
  have HG0 : Hid (∀ W, Below w3.heap.size w3 W → W.rangeAt b0 o0 (atC X0)) := fun W h j v hj => by
    have := hc0 0 X0 j v rfl hj
    rw [Nat.zero_mul, Nat.zero_add] at this
    exact (h.cell (p := ⟨b0, o0 + j, none⟩) hl0).trans this
  have HG1 : Hid (∀ W, Below w3.heap.size w3 W → W.rangeAt b1 o1 (atC X1)) := fun W h j v hj => by
    have := hc1 0 X1 j v rfl hj
    rw [Nat.zero_mul, Nat.zero_add] at this
    exact (h.cell (p := ⟨b1, o1 + j, none⟩) hl1).trans this
  have HG2 : Hid (∀ W, Below w3.heap.size w3 W → W.rangeAt b2 o2 (atC X2)) := fun W h j v hj => by
    have := hc2 0 X2 j v rfl hj
    rw [Nat.zero_mul, Nat.zero_add] at this
    exact (h.cell (p := ⟨b2, o2 + j, none⟩) hl2).trans this
  have HMX := Lib.hid (fun (W : World) (h : Below w3.heap.size w3 W) => match_any [X0] (⟨#[UInt8.ofNat ((b : Int)).toNat]⟩ : ByteArray) _ W (HQ0.out.below h (Nat.le_refl _)) (show 1 ≤ 2147483648 by decide) (show 1 ≤ 140737488355328 by decide))
  rw [HMM.out] at HMX
  clear hc0 hc1 hc2 HMM HQ0 HQ1 HR2
  have hu := Try.underlying37
  have hi : (Try.prog.info? 37).map (·.size) = some 34 := atom_size
  go_upto_region 8 with (first
    | (refine wpList_load_mid rfl 37 (.tmp 70) rfl b0 o0 rfl (atC X0) _ (HG0.out _ (Below.refl _ _)) hu rfl (by rw [hi, atC_len]) ?_)
    | (go_at_call 18; refine (HC0.out _).mono ?_; rintro e w4 ⟨rfl, hb4⟩))
  have HB4 := Lib.hid hb4
  clear hb4
  cases px with
  | true =>
    go_wp2_with (first
      | (refine wpList_load_mid rfl 37 (.tmp 75) rfl b1 o1 rfl (atC X1) _ (HG1.out _ HB4.out) hu rfl (by rw [hi, atC_len]) ?_)
      | (go_at_call_of 18 (Value.agg (atC X1).toArray); refine (HC1.out _).mono ?_; rintro e w5 ⟨rfl, hb5⟩; have HB5 := Lib.hid (HB4.out.trans (hb5.mono HB4.out.size)))
      | (refine wpList_load_mid_g rfl 37 (.tmp 84) rfl b2 o2 rfl (atC X2) _ (HG2.out _ HB5.out) hu rfl (by rw [hi, atC_len]) ?_)
      | (go_at_call_of 18 (Value.agg (atC X2).toArray); refine (HC2.out _).mono ?_; rintro e w6 ⟨rfl, hb6⟩; have HB6 := Lib.hid (HB5.out.trans (hb6.mono HB5.out.size)); have HB6a := Lib.hid (HB6.out.alloc HB6.out.size (.cells #[.int .u8 b] 5)))
      | (go_at_call 19; refine (HMX.out _ HB6a.out).mono ?_; rintro e w7 ⟨rfl, hb7⟩; have HB7 := Lib.hid (HB6a.out.trans (hb7.mono HB6a.out.size)))
      | (go_at_call 12; refine (HK.out _).mono ?_; rintro e w8 ⟨rfl, hb8⟩))
    go_ret
    exact ⟨rfl, HB3.out.trans ((HB7.out.trans (hb8.mono HB7.out.size)).mono hz3)⟩
  | false =>
    go_wp2_with (first
      | (refine wpList_load_mid rfl 37 (.tmp 75) rfl b1 o1 rfl (atC X1) _ (HG1.out _ HB4.out) hu rfl (by rw [hi, atC_len]) ?_)
      | (go_at_call_of 18 (Value.agg (atC X1).toArray); refine (HC1.out _).mono ?_; rintro e w5 ⟨rfl, hb5⟩; have HB5 := Lib.hid (HB4.out.trans (hb5.mono HB4.out.size)))
      | (refine wpList_load_mid_g rfl 37 (.tmp 84) rfl b2 o2 rfl (atC X2) _ (HG2.out _ HB5.out) hu rfl (by rw [hi, atC_len]) ?_)
      | (go_at_call_of 18 (Value.agg (atC X2).toArray); refine (HC2.out _).mono ?_; rintro e w6 ⟨rfl, hb6⟩; have HB6 := Lib.hid (HB5.out.trans (hb6.mono HB5.out.size)); have HB6a := Lib.hid (HB6.out.alloc HB6.out.size (.cells #[.int .u8 b] 5)))
      | (go_at_call 19; refine (HMX.out _ HB6a.out).mono ?_; rintro e w7 ⟨rfl, hb7⟩; have HB7 := Lib.hid (HB6a.out.trans (hb7.mono HB6a.out.size)))
      | (go_at_call 12; refine (HK.out _).mono ?_; rintro e w8 ⟨rfl, hb8⟩))
    go_ret
    exact ⟨rfl, HB3.out.trans ((HB7.out.trans (hb8.mono HB7.out.size)).mono hz3)⟩

set_option maxRecDepth 100000 in
set_option maxHeartbeats 16000000 in
theorem sets_1 (x : Int) (b : Nat) (w : World) (hx : IntIn x) (hb : b < 256) (hz : x % 6 = 1) :
    Calls Try.prog 4 #[.int .i64 x, .int .u8 b] w fun e w' => e = .returned (.bool true) ∧ Below w.heap.size w w' := by
  have HK := Lib.hid known_any
  have HPL := Lib.hid (fun w => place_any x 6 w hx (by decide) (by decide))
  rw [hz] at HPL
  clear hz
  have hcv := fun (w : World) => run_string_of_byte (P := Try.prog) 39 9 5 Try.underlying39 Try.underlying5 Try.underlying9 b (by omega) (by omega) w
  go_enter Try.func4, Try.ntmps4
  go_upto_region 2 with (go_at_call 17; refine (HPL.out _).mono ?_; rintro e w' ⟨rfl, rfl⟩)
  clear HPL
  obtain ⟨X0, HX0⟩ : ∃ X : At, Hid (X = ⟨kindP 3, 1, false⟩) := ⟨⟨kindP 3, 1, false⟩, rfl⟩
  have HP0 : Hid (∀ w, Calls Try.prog 14 #[.string ⟨#[92, 100]⟩] w fun e w' => ∃ v, e = .returned (.tuple #[v, .int .i64 0, .int .i64 0]) ∧ OwnE 37 atC 34 w' w.heap.size v [X0] ∧ Below w.heap.size w w') := fun w => by
    have h := parse_any w (⟨#[92, 100]⟩ : ByteArray) (by decide)
    rw [ps_1_0, ← HX0.out] at h
    exact h
  obtain ⟨X1, HX1⟩ : ∃ X : At, Hid (X = ⟨notP (kindP 3), 1, false⟩) := ⟨⟨notP (kindP 3), 1, false⟩, rfl⟩
  have HP1 : Hid (∀ w, Calls Try.prog 14 #[.string ⟨#[92, 68]⟩] w fun e w' => ∃ v, e = .returned (.tuple #[v, .int .i64 0, .int .i64 0]) ∧ OwnE 37 atC 34 w' w.heap.size v [X1] ∧ Below w.heap.size w w') := fun w => by
    have h := parse_any w (⟨#[92, 68]⟩ : ByteArray) (by decide)
    rw [ps_1_1, ← HX1.out] at h
    exact h
  obtain ⟨X2, HX2⟩ : ∃ X : At, Hid (X = ⟨orP noP (kindP 3), 1, false⟩) := ⟨⟨orP noP (kindP 3), 1, false⟩, rfl⟩
  have HP2 : Hid (∀ w, Calls Try.prog 14 #[.string ⟨#[91, 92, 100, 93]⟩] w fun e w' => ∃ v, e = .returned (.tuple #[v, .int .i64 0, .int .i64 0]) ∧ OwnE 37 atC 34 w' w.heap.size v [X2] ∧ Below w.heap.size w w') := fun w => by
    have h := parse_any w (⟨#[91, 92, 100, 93]⟩ : ByteArray) (by decide)
    rw [ps_1_2, ← HX2.out] at h
    exact h
  obtain ⟨px, HPX⟩ : ∃ px : Bool, Hid (px = kindP 3 b) := ⟨kindP 3 b, rfl⟩
  have HC0 : Hid (∀ w, Calls Try.prog 18 #[.agg (atC X0).toArray, .int .u8 b] w fun e w' => e = .returned (.bool px) ∧ Below w.heap.size w w') := fun w => by
    have h := contains_any X0 b w hb
    rw [show X0.p b = px by rw [HX0.out, HPX.out]] at h
    exact h
  have HC1 : Hid (∀ w, Calls Try.prog 18 #[.agg (atC X1).toArray, .int .u8 b] w fun e w' => e = .returned (.bool (!px)) ∧ Below w.heap.size w w') := fun w => by
    have h := contains_any X1 b w hb
    rw [show X1.p b = !px by rw [HX1.out, HPX.out]; rfl] at h
    exact h
  have HC2 : Hid (∀ w, Calls Try.prog 18 #[.agg (atC X2).toArray, .int .u8 b] w fun e w' => e = .returned (.bool px) ∧ Below w.heap.size w w') := fun w => by
    have h := contains_any X2 b w hb
    rw [show X2.p b = px by rw [HX2.out, HPX.out]; rfl] at h
    exact h
  have HMM : Hid (matchF [X0] (⟨#[UInt8.ofNat ((b : Int)).toNat]⟩ : ByteArray) = px) := by
    show _ = _
    rw [match_byte X0 b hb (by rw [HX0.out]) (by rw [HX0.out]), HX0.out, HPX.out]
  clear HX0 HX1 HX2 HPX
  go_upto_region 3 with (go_at_call 14; refine (HP0.out _).mono ?_; rintro e w1 ⟨v0, rfl, ho0, hb0⟩)
  have HR0 := Lib.hid (OwnE.rd atC_len ho0)
  obtain ⟨A0, c0, hv0⟩ := own_shape ho0
  have HB0 := Lib.hid (((Below.refl w.heap.size w).alloc (Nat.le_refl _) _).trans (hb0.mono (by simp)))
  clear ho0 hb0
  go_upto_region 4 with (go_at_call 14; refine (HP1.out _).mono ?_; rintro e w2 ⟨v1, rfl, ho1, hb1⟩)
  have HR1 := Lib.hid (OwnE.rd atC_len ho1)
  obtain ⟨A1, c1, hv1⟩ := own_shape ho1
  have HW1 := Lib.hid (((Below.refl w1.heap.size w1).alloc (Nat.le_refl _) _).trans (hb1.mono (by simp)))
  clear ho1 hb1
  go_upto_region 5 with (go_at_call 14; refine (HP2.out _).mono ?_; rintro e w3 ⟨v2, rfl, ho2, hb2⟩)
  have HR2 := Lib.hid (OwnE.rd atC_len ho2)
  obtain ⟨A2, c2, hv2⟩ := own_shape ho2
  have HW2 := Lib.hid (((Below.refl w2.heap.size w2).alloc (Nat.le_refl _) _).trans (hb2.mono (by simp)))
  clear ho2 hb2 HP0 HP1 HP2
  subst hv0 hv1 hv2
  have HQ0 := Lib.hid ((HR0.out.below HW1.out (Nat.le_refl _)).below HW2.out (Nat.le_refl _))
  have HQ1 := Lib.hid (HR1.out.below HW2.out (Nat.le_refl _))
  have HB3 := Lib.hid ((HB0.out.trans (HW1.out.mono HB0.out.size)).trans (HW2.out.mono (Nat.le_trans HB0.out.size HW1.out.size)))
  have hz3 := HB3.out.size
  clear HR0 HR1 HB0 HW1 HW2
  obtain ⟨b0, o0, rfl, hl0, hc0⟩ := HQ0.out.cells Nat.zero_lt_one
  obtain ⟨b1, o1, rfl, hl1, hc1⟩ := HQ1.out.cells Nat.zero_lt_one
  obtain ⟨b2, o2, rfl, hl2, hc2⟩ := HR2.out.cells Nat.zero_lt_one
  have HG0 : Hid (∀ W, Below w3.heap.size w3 W → W.rangeAt b0 o0 (atC X0)) := fun W h j v hj => by
    have := hc0 0 X0 j v rfl hj
    rw [Nat.zero_mul, Nat.zero_add] at this
    exact (h.cell (p := ⟨b0, o0 + j, none⟩) hl0).trans this
  have HG1 : Hid (∀ W, Below w3.heap.size w3 W → W.rangeAt b1 o1 (atC X1)) := fun W h j v hj => by
    have := hc1 0 X1 j v rfl hj
    rw [Nat.zero_mul, Nat.zero_add] at this
    exact (h.cell (p := ⟨b1, o1 + j, none⟩) hl1).trans this
  have HG2 : Hid (∀ W, Below w3.heap.size w3 W → W.rangeAt b2 o2 (atC X2)) := fun W h j v hj => by
    have := hc2 0 X2 j v rfl hj
    rw [Nat.zero_mul, Nat.zero_add] at this
    exact (h.cell (p := ⟨b2, o2 + j, none⟩) hl2).trans this
  have HMX := Lib.hid (fun (W : World) (h : Below w3.heap.size w3 W) => match_any [X0] (⟨#[UInt8.ofNat ((b : Int)).toNat]⟩ : ByteArray) _ W (HQ0.out.below h (Nat.le_refl _)) (show 1 ≤ 2147483648 by decide) (show 1 ≤ 140737488355328 by decide))
  rw [HMM.out] at HMX
  clear hc0 hc1 hc2 HMM HQ0 HQ1 HR2
  have hu := Try.underlying37
  have hi : (Try.prog.info? 37).map (·.size) = some 34 := atom_size
  go_upto_region 8 with (first
    | (refine wpList_load_mid rfl 37 (.tmp 70) rfl b0 o0 rfl (atC X0) _ (HG0.out _ (Below.refl _ _)) hu rfl (by rw [hi, atC_len]) ?_)
    | (go_at_call 18; refine (HC0.out _).mono ?_; rintro e w4 ⟨rfl, hb4⟩))
  have HB4 := Lib.hid hb4
  clear hb4
  cases px with
  | true =>
    go_wp2_with (first
      | (refine wpList_load_mid rfl 37 (.tmp 75) rfl b1 o1 rfl (atC X1) _ (HG1.out _ HB4.out) hu rfl (by rw [hi, atC_len]) ?_)
      | (go_at_call_of 18 (Value.agg (atC X1).toArray); refine (HC1.out _).mono ?_; rintro e w5 ⟨rfl, hb5⟩; have HB5 := Lib.hid (HB4.out.trans (hb5.mono HB4.out.size)))
      | (refine wpList_load_mid_g rfl 37 (.tmp 84) rfl b2 o2 rfl (atC X2) _ (HG2.out _ HB5.out) hu rfl (by rw [hi, atC_len]) ?_)
      | (go_at_call_of 18 (Value.agg (atC X2).toArray); refine (HC2.out _).mono ?_; rintro e w6 ⟨rfl, hb6⟩; have HB6 := Lib.hid (HB5.out.trans (hb6.mono HB5.out.size)); have HB6a := Lib.hid (HB6.out.alloc HB6.out.size (.cells #[.int .u8 b] 5)))
      | (go_at_call 19; refine (HMX.out _ HB6a.out).mono ?_; rintro e w7 ⟨rfl, hb7⟩; have HB7 := Lib.hid (HB6a.out.trans (hb7.mono HB6a.out.size)))
      | (go_at_call 12; refine (HK.out _).mono ?_; rintro e w8 ⟨rfl, hb8⟩))
    go_ret
    exact ⟨rfl, HB3.out.trans ((HB7.out.trans (hb8.mono HB7.out.size)).mono hz3)⟩
  | false =>
    go_wp2_with (first
      | (refine wpList_load_mid rfl 37 (.tmp 75) rfl b1 o1 rfl (atC X1) _ (HG1.out _ HB4.out) hu rfl (by rw [hi, atC_len]) ?_)
      | (go_at_call_of 18 (Value.agg (atC X1).toArray); refine (HC1.out _).mono ?_; rintro e w5 ⟨rfl, hb5⟩; have HB5 := Lib.hid (HB4.out.trans (hb5.mono HB4.out.size)))
      | (refine wpList_load_mid_g rfl 37 (.tmp 84) rfl b2 o2 rfl (atC X2) _ (HG2.out _ HB5.out) hu rfl (by rw [hi, atC_len]) ?_)
      | (go_at_call_of 18 (Value.agg (atC X2).toArray); refine (HC2.out _).mono ?_; rintro e w6 ⟨rfl, hb6⟩; have HB6 := Lib.hid (HB5.out.trans (hb6.mono HB5.out.size)); have HB6a := Lib.hid (HB6.out.alloc HB6.out.size (.cells #[.int .u8 b] 5)))
      | (go_at_call 19; refine (HMX.out _ HB6a.out).mono ?_; rintro e w7 ⟨rfl, hb7⟩; have HB7 := Lib.hid (HB6a.out.trans (hb7.mono HB6a.out.size)))
      | (go_at_call 12; refine (HK.out _).mono ?_; rintro e w8 ⟨rfl, hb8⟩))
    go_ret
    exact ⟨rfl, HB3.out.trans ((HB7.out.trans (hb8.mono HB7.out.size)).mono hz3)⟩

set_option maxRecDepth 100000 in
set_option maxHeartbeats 16000000 in
theorem sets_2 (x : Int) (b : Nat) (w : World) (hx : IntIn x) (hb : b < 256) (hz : x % 6 = 2) :
    Calls Try.prog 4 #[.int .i64 x, .int .u8 b] w fun e w' => e = .returned (.bool true) ∧ Below w.heap.size w w' := by
  have HK := Lib.hid known_any
  have HPL := Lib.hid (fun w => place_any x 6 w hx (by decide) (by decide))
  rw [hz] at HPL
  clear hz
  have hcv := fun (w : World) => run_string_of_byte (P := Try.prog) 39 9 5 Try.underlying39 Try.underlying5 Try.underlying9 b (by omega) (by omega) w
  go_enter Try.func4, Try.ntmps4
  go_upto_region 2 with (go_at_call 17; refine (HPL.out _).mono ?_; rintro e w' ⟨rfl, rfl⟩)
  clear HPL
  obtain ⟨X0, HX0⟩ : ∃ X : At, Hid (X = ⟨kindP 4, 1, false⟩) := ⟨⟨kindP 4, 1, false⟩, rfl⟩
  have HP0 : Hid (∀ w, Calls Try.prog 14 #[.string ⟨#[92, 108]⟩] w fun e w' => ∃ v, e = .returned (.tuple #[v, .int .i64 0, .int .i64 0]) ∧ OwnE 37 atC 34 w' w.heap.size v [X0] ∧ Below w.heap.size w w') := fun w => by
    have h := parse_any w (⟨#[92, 108]⟩ : ByteArray) (by decide)
    rw [ps_2_0, ← HX0.out] at h
    exact h
  obtain ⟨X1, HX1⟩ : ∃ X : At, Hid (X = ⟨notP (kindP 4), 1, false⟩) := ⟨⟨notP (kindP 4), 1, false⟩, rfl⟩
  have HP1 : Hid (∀ w, Calls Try.prog 14 #[.string ⟨#[92, 76]⟩] w fun e w' => ∃ v, e = .returned (.tuple #[v, .int .i64 0, .int .i64 0]) ∧ OwnE 37 atC 34 w' w.heap.size v [X1] ∧ Below w.heap.size w w') := fun w => by
    have h := parse_any w (⟨#[92, 76]⟩ : ByteArray) (by decide)
    rw [ps_2_1, ← HX1.out] at h
    exact h
  obtain ⟨X2, HX2⟩ : ∃ X : At, Hid (X = ⟨orP noP (kindP 4), 1, false⟩) := ⟨⟨orP noP (kindP 4), 1, false⟩, rfl⟩
  have HP2 : Hid (∀ w, Calls Try.prog 14 #[.string ⟨#[91, 92, 108, 93]⟩] w fun e w' => ∃ v, e = .returned (.tuple #[v, .int .i64 0, .int .i64 0]) ∧ OwnE 37 atC 34 w' w.heap.size v [X2] ∧ Below w.heap.size w w') := fun w => by
    have h := parse_any w (⟨#[91, 92, 108, 93]⟩ : ByteArray) (by decide)
    rw [ps_2_2, ← HX2.out] at h
    exact h
  obtain ⟨px, HPX⟩ : ∃ px : Bool, Hid (px = kindP 4 b) := ⟨kindP 4 b, rfl⟩
  have HC0 : Hid (∀ w, Calls Try.prog 18 #[.agg (atC X0).toArray, .int .u8 b] w fun e w' => e = .returned (.bool px) ∧ Below w.heap.size w w') := fun w => by
    have h := contains_any X0 b w hb
    rw [show X0.p b = px by rw [HX0.out, HPX.out]] at h
    exact h
  have HC1 : Hid (∀ w, Calls Try.prog 18 #[.agg (atC X1).toArray, .int .u8 b] w fun e w' => e = .returned (.bool (!px)) ∧ Below w.heap.size w w') := fun w => by
    have h := contains_any X1 b w hb
    rw [show X1.p b = !px by rw [HX1.out, HPX.out]; rfl] at h
    exact h
  have HC2 : Hid (∀ w, Calls Try.prog 18 #[.agg (atC X2).toArray, .int .u8 b] w fun e w' => e = .returned (.bool px) ∧ Below w.heap.size w w') := fun w => by
    have h := contains_any X2 b w hb
    rw [show X2.p b = px by rw [HX2.out, HPX.out]; rfl] at h
    exact h
  have HMM : Hid (matchF [X0] (⟨#[UInt8.ofNat ((b : Int)).toNat]⟩ : ByteArray) = px) := by
    show _ = _
    rw [match_byte X0 b hb (by rw [HX0.out]) (by rw [HX0.out]), HX0.out, HPX.out]
  clear HX0 HX1 HX2 HPX
  go_upto_region 3 with (go_at_call 14; refine (HP0.out _).mono ?_; rintro e w1 ⟨v0, rfl, ho0, hb0⟩)
  have HR0 := Lib.hid (OwnE.rd atC_len ho0)
  obtain ⟨A0, c0, hv0⟩ := own_shape ho0
  have HB0 := Lib.hid (((Below.refl w.heap.size w).alloc (Nat.le_refl _) _).trans (hb0.mono (by simp)))
  clear ho0 hb0
  go_upto_region 4 with (go_at_call 14; refine (HP1.out _).mono ?_; rintro e w2 ⟨v1, rfl, ho1, hb1⟩)
  have HR1 := Lib.hid (OwnE.rd atC_len ho1)
  obtain ⟨A1, c1, hv1⟩ := own_shape ho1
  have HW1 := Lib.hid (((Below.refl w1.heap.size w1).alloc (Nat.le_refl _) _).trans (hb1.mono (by simp)))
  clear ho1 hb1
  go_upto_region 5 with (go_at_call 14; refine (HP2.out _).mono ?_; rintro e w3 ⟨v2, rfl, ho2, hb2⟩)
  have HR2 := Lib.hid (OwnE.rd atC_len ho2)
  obtain ⟨A2, c2, hv2⟩ := own_shape ho2
  have HW2 := Lib.hid (((Below.refl w2.heap.size w2).alloc (Nat.le_refl _) _).trans (hb2.mono (by simp)))
  clear ho2 hb2 HP0 HP1 HP2
  subst hv0 hv1 hv2
  have HQ0 := Lib.hid ((HR0.out.below HW1.out (Nat.le_refl _)).below HW2.out (Nat.le_refl _))
  have HQ1 := Lib.hid (HR1.out.below HW2.out (Nat.le_refl _))
  have HB3 := Lib.hid ((HB0.out.trans (HW1.out.mono HB0.out.size)).trans (HW2.out.mono (Nat.le_trans HB0.out.size HW1.out.size)))
  have hz3 := HB3.out.size
  clear HR0 HR1 HB0 HW1 HW2
  obtain ⟨b0, o0, rfl, hl0, hc0⟩ := HQ0.out.cells Nat.zero_lt_one
  obtain ⟨b1, o1, rfl, hl1, hc1⟩ := HQ1.out.cells Nat.zero_lt_one
  obtain ⟨b2, o2, rfl, hl2, hc2⟩ := HR2.out.cells Nat.zero_lt_one
  have HG0 : Hid (∀ W, Below w3.heap.size w3 W → W.rangeAt b0 o0 (atC X0)) := fun W h j v hj => by
    have := hc0 0 X0 j v rfl hj
    rw [Nat.zero_mul, Nat.zero_add] at this
    exact (h.cell (p := ⟨b0, o0 + j, none⟩) hl0).trans this
  have HG1 : Hid (∀ W, Below w3.heap.size w3 W → W.rangeAt b1 o1 (atC X1)) := fun W h j v hj => by
    have := hc1 0 X1 j v rfl hj
    rw [Nat.zero_mul, Nat.zero_add] at this
    exact (h.cell (p := ⟨b1, o1 + j, none⟩) hl1).trans this
  have HG2 : Hid (∀ W, Below w3.heap.size w3 W → W.rangeAt b2 o2 (atC X2)) := fun W h j v hj => by
    have := hc2 0 X2 j v rfl hj
    rw [Nat.zero_mul, Nat.zero_add] at this
    exact (h.cell (p := ⟨b2, o2 + j, none⟩) hl2).trans this
  have HMX := Lib.hid (fun (W : World) (h : Below w3.heap.size w3 W) => match_any [X0] (⟨#[UInt8.ofNat ((b : Int)).toNat]⟩ : ByteArray) _ W (HQ0.out.below h (Nat.le_refl _)) (show 1 ≤ 2147483648 by decide) (show 1 ≤ 140737488355328 by decide))
  rw [HMM.out] at HMX
  clear hc0 hc1 hc2 HMM HQ0 HQ1 HR2
  have hu := Try.underlying37
  have hi : (Try.prog.info? 37).map (·.size) = some 34 := atom_size
  go_upto_region 8 with (first
    | (refine wpList_load_mid rfl 37 (.tmp 70) rfl b0 o0 rfl (atC X0) _ (HG0.out _ (Below.refl _ _)) hu rfl (by rw [hi, atC_len]) ?_)
    | (go_at_call 18; refine (HC0.out _).mono ?_; rintro e w4 ⟨rfl, hb4⟩))
  have HB4 := Lib.hid hb4
  clear hb4
  cases px with
  | true =>
    go_wp2_with (first
      | (refine wpList_load_mid rfl 37 (.tmp 75) rfl b1 o1 rfl (atC X1) _ (HG1.out _ HB4.out) hu rfl (by rw [hi, atC_len]) ?_)
      | (go_at_call_of 18 (Value.agg (atC X1).toArray); refine (HC1.out _).mono ?_; rintro e w5 ⟨rfl, hb5⟩; have HB5 := Lib.hid (HB4.out.trans (hb5.mono HB4.out.size)))
      | (refine wpList_load_mid_g rfl 37 (.tmp 84) rfl b2 o2 rfl (atC X2) _ (HG2.out _ HB5.out) hu rfl (by rw [hi, atC_len]) ?_)
      | (go_at_call_of 18 (Value.agg (atC X2).toArray); refine (HC2.out _).mono ?_; rintro e w6 ⟨rfl, hb6⟩; have HB6 := Lib.hid (HB5.out.trans (hb6.mono HB5.out.size)); have HB6a := Lib.hid (HB6.out.alloc HB6.out.size (.cells #[.int .u8 b] 5)))
      | (go_at_call 19; refine (HMX.out _ HB6a.out).mono ?_; rintro e w7 ⟨rfl, hb7⟩; have HB7 := Lib.hid (HB6a.out.trans (hb7.mono HB6a.out.size)))
      | (go_at_call 12; refine (HK.out _).mono ?_; rintro e w8 ⟨rfl, hb8⟩))
    go_ret
    exact ⟨rfl, HB3.out.trans ((HB7.out.trans (hb8.mono HB7.out.size)).mono hz3)⟩
  | false =>
    go_wp2_with (first
      | (refine wpList_load_mid rfl 37 (.tmp 75) rfl b1 o1 rfl (atC X1) _ (HG1.out _ HB4.out) hu rfl (by rw [hi, atC_len]) ?_)
      | (go_at_call_of 18 (Value.agg (atC X1).toArray); refine (HC1.out _).mono ?_; rintro e w5 ⟨rfl, hb5⟩; have HB5 := Lib.hid (HB4.out.trans (hb5.mono HB4.out.size)))
      | (refine wpList_load_mid_g rfl 37 (.tmp 84) rfl b2 o2 rfl (atC X2) _ (HG2.out _ HB5.out) hu rfl (by rw [hi, atC_len]) ?_)
      | (go_at_call_of 18 (Value.agg (atC X2).toArray); refine (HC2.out _).mono ?_; rintro e w6 ⟨rfl, hb6⟩; have HB6 := Lib.hid (HB5.out.trans (hb6.mono HB5.out.size)); have HB6a := Lib.hid (HB6.out.alloc HB6.out.size (.cells #[.int .u8 b] 5)))
      | (go_at_call 19; refine (HMX.out _ HB6a.out).mono ?_; rintro e w7 ⟨rfl, hb7⟩; have HB7 := Lib.hid (HB6a.out.trans (hb7.mono HB6a.out.size)))
      | (go_at_call 12; refine (HK.out _).mono ?_; rintro e w8 ⟨rfl, hb8⟩))
    go_ret
    exact ⟨rfl, HB3.out.trans ((HB7.out.trans (hb8.mono HB7.out.size)).mono hz3)⟩

set_option maxRecDepth 100000 in
set_option maxHeartbeats 16000000 in
theorem sets_3 (x : Int) (b : Nat) (w : World) (hx : IntIn x) (hb : b < 256) (hz : x % 6 = 3) :
    Calls Try.prog 4 #[.int .i64 x, .int .u8 b] w fun e w' => e = .returned (.bool true) ∧ Below w.heap.size w w' := by
  have HK := Lib.hid known_any
  have HPL := Lib.hid (fun w => place_any x 6 w hx (by decide) (by decide))
  rw [hz] at HPL
  clear hz
  have hcv := fun (w : World) => run_string_of_byte (P := Try.prog) 39 9 5 Try.underlying39 Try.underlying5 Try.underlying9 b (by omega) (by omega) w
  go_enter Try.func4, Try.ntmps4
  go_upto_region 2 with (go_at_call 17; refine (HPL.out _).mono ?_; rintro e w' ⟨rfl, rfl⟩)
  clear HPL
  obtain ⟨X0, HX0⟩ : ∃ X : At, Hid (X = ⟨kindP 1, 1, false⟩) := ⟨⟨kindP 1, 1, false⟩, rfl⟩
  have HP0 : Hid (∀ w, Calls Try.prog 14 #[.string ⟨#[92, 99]⟩] w fun e w' => ∃ v, e = .returned (.tuple #[v, .int .i64 0, .int .i64 0]) ∧ OwnE 37 atC 34 w' w.heap.size v [X0] ∧ Below w.heap.size w w') := fun w => by
    have h := parse_any w (⟨#[92, 99]⟩ : ByteArray) (by decide)
    rw [ps_3_0, ← HX0.out] at h
    exact h
  obtain ⟨X1, HX1⟩ : ∃ X : At, Hid (X = ⟨notP (kindP 1), 1, false⟩) := ⟨⟨notP (kindP 1), 1, false⟩, rfl⟩
  have HP1 : Hid (∀ w, Calls Try.prog 14 #[.string ⟨#[92, 67]⟩] w fun e w' => ∃ v, e = .returned (.tuple #[v, .int .i64 0, .int .i64 0]) ∧ OwnE 37 atC 34 w' w.heap.size v [X1] ∧ Below w.heap.size w w') := fun w => by
    have h := parse_any w (⟨#[92, 67]⟩ : ByteArray) (by decide)
    rw [ps_3_1, ← HX1.out] at h
    exact h
  obtain ⟨X2, HX2⟩ : ∃ X : At, Hid (X = ⟨orP noP (kindP 1), 1, false⟩) := ⟨⟨orP noP (kindP 1), 1, false⟩, rfl⟩
  have HP2 : Hid (∀ w, Calls Try.prog 14 #[.string ⟨#[91, 92, 99, 93]⟩] w fun e w' => ∃ v, e = .returned (.tuple #[v, .int .i64 0, .int .i64 0]) ∧ OwnE 37 atC 34 w' w.heap.size v [X2] ∧ Below w.heap.size w w') := fun w => by
    have h := parse_any w (⟨#[91, 92, 99, 93]⟩ : ByteArray) (by decide)
    rw [ps_3_2, ← HX2.out] at h
    exact h
  obtain ⟨px, HPX⟩ : ∃ px : Bool, Hid (px = kindP 1 b) := ⟨kindP 1 b, rfl⟩
  have HC0 : Hid (∀ w, Calls Try.prog 18 #[.agg (atC X0).toArray, .int .u8 b] w fun e w' => e = .returned (.bool px) ∧ Below w.heap.size w w') := fun w => by
    have h := contains_any X0 b w hb
    rw [show X0.p b = px by rw [HX0.out, HPX.out]] at h
    exact h
  have HC1 : Hid (∀ w, Calls Try.prog 18 #[.agg (atC X1).toArray, .int .u8 b] w fun e w' => e = .returned (.bool (!px)) ∧ Below w.heap.size w w') := fun w => by
    have h := contains_any X1 b w hb
    rw [show X1.p b = !px by rw [HX1.out, HPX.out]; rfl] at h
    exact h
  have HC2 : Hid (∀ w, Calls Try.prog 18 #[.agg (atC X2).toArray, .int .u8 b] w fun e w' => e = .returned (.bool px) ∧ Below w.heap.size w w') := fun w => by
    have h := contains_any X2 b w hb
    rw [show X2.p b = px by rw [HX2.out, HPX.out]; rfl] at h
    exact h
  have HMM : Hid (matchF [X0] (⟨#[UInt8.ofNat ((b : Int)).toNat]⟩ : ByteArray) = px) := by
    show _ = _
    rw [match_byte X0 b hb (by rw [HX0.out]) (by rw [HX0.out]), HX0.out, HPX.out]
  clear HX0 HX1 HX2 HPX
  go_upto_region 3 with (go_at_call 14; refine (HP0.out _).mono ?_; rintro e w1 ⟨v0, rfl, ho0, hb0⟩)
  have HR0 := Lib.hid (OwnE.rd atC_len ho0)
  obtain ⟨A0, c0, hv0⟩ := own_shape ho0
  have HB0 := Lib.hid (((Below.refl w.heap.size w).alloc (Nat.le_refl _) _).trans (hb0.mono (by simp)))
  clear ho0 hb0
  go_upto_region 4 with (go_at_call 14; refine (HP1.out _).mono ?_; rintro e w2 ⟨v1, rfl, ho1, hb1⟩)
  have HR1 := Lib.hid (OwnE.rd atC_len ho1)
  obtain ⟨A1, c1, hv1⟩ := own_shape ho1
  have HW1 := Lib.hid (((Below.refl w1.heap.size w1).alloc (Nat.le_refl _) _).trans (hb1.mono (by simp)))
  clear ho1 hb1
  go_upto_region 5 with (go_at_call 14; refine (HP2.out _).mono ?_; rintro e w3 ⟨v2, rfl, ho2, hb2⟩)
  have HR2 := Lib.hid (OwnE.rd atC_len ho2)
  obtain ⟨A2, c2, hv2⟩ := own_shape ho2
  have HW2 := Lib.hid (((Below.refl w2.heap.size w2).alloc (Nat.le_refl _) _).trans (hb2.mono (by simp)))
  clear ho2 hb2 HP0 HP1 HP2
  subst hv0 hv1 hv2
  have HQ0 := Lib.hid ((HR0.out.below HW1.out (Nat.le_refl _)).below HW2.out (Nat.le_refl _))
  have HQ1 := Lib.hid (HR1.out.below HW2.out (Nat.le_refl _))
  have HB3 := Lib.hid ((HB0.out.trans (HW1.out.mono HB0.out.size)).trans (HW2.out.mono (Nat.le_trans HB0.out.size HW1.out.size)))
  have hz3 := HB3.out.size
  clear HR0 HR1 HB0 HW1 HW2
  obtain ⟨b0, o0, rfl, hl0, hc0⟩ := HQ0.out.cells Nat.zero_lt_one
  obtain ⟨b1, o1, rfl, hl1, hc1⟩ := HQ1.out.cells Nat.zero_lt_one
  obtain ⟨b2, o2, rfl, hl2, hc2⟩ := HR2.out.cells Nat.zero_lt_one
  have HG0 : Hid (∀ W, Below w3.heap.size w3 W → W.rangeAt b0 o0 (atC X0)) := fun W h j v hj => by
    have := hc0 0 X0 j v rfl hj
    rw [Nat.zero_mul, Nat.zero_add] at this
    exact (h.cell (p := ⟨b0, o0 + j, none⟩) hl0).trans this
  have HG1 : Hid (∀ W, Below w3.heap.size w3 W → W.rangeAt b1 o1 (atC X1)) := fun W h j v hj => by
    have := hc1 0 X1 j v rfl hj
    rw [Nat.zero_mul, Nat.zero_add] at this
    exact (h.cell (p := ⟨b1, o1 + j, none⟩) hl1).trans this
  have HG2 : Hid (∀ W, Below w3.heap.size w3 W → W.rangeAt b2 o2 (atC X2)) := fun W h j v hj => by
    have := hc2 0 X2 j v rfl hj
    rw [Nat.zero_mul, Nat.zero_add] at this
    exact (h.cell (p := ⟨b2, o2 + j, none⟩) hl2).trans this
  have HMX := Lib.hid (fun (W : World) (h : Below w3.heap.size w3 W) => match_any [X0] (⟨#[UInt8.ofNat ((b : Int)).toNat]⟩ : ByteArray) _ W (HQ0.out.below h (Nat.le_refl _)) (show 1 ≤ 2147483648 by decide) (show 1 ≤ 140737488355328 by decide))
  rw [HMM.out] at HMX
  clear hc0 hc1 hc2 HMM HQ0 HQ1 HR2
  have hu := Try.underlying37
  have hi : (Try.prog.info? 37).map (·.size) = some 34 := atom_size
  go_upto_region 8 with (first
    | (refine wpList_load_mid rfl 37 (.tmp 70) rfl b0 o0 rfl (atC X0) _ (HG0.out _ (Below.refl _ _)) hu rfl (by rw [hi, atC_len]) ?_)
    | (go_at_call 18; refine (HC0.out _).mono ?_; rintro e w4 ⟨rfl, hb4⟩))
  have HB4 := Lib.hid hb4
  clear hb4
  cases px with
  | true =>
    go_wp2_with (first
      | (refine wpList_load_mid rfl 37 (.tmp 75) rfl b1 o1 rfl (atC X1) _ (HG1.out _ HB4.out) hu rfl (by rw [hi, atC_len]) ?_)
      | (go_at_call_of 18 (Value.agg (atC X1).toArray); refine (HC1.out _).mono ?_; rintro e w5 ⟨rfl, hb5⟩; have HB5 := Lib.hid (HB4.out.trans (hb5.mono HB4.out.size)))
      | (refine wpList_load_mid_g rfl 37 (.tmp 84) rfl b2 o2 rfl (atC X2) _ (HG2.out _ HB5.out) hu rfl (by rw [hi, atC_len]) ?_)
      | (go_at_call_of 18 (Value.agg (atC X2).toArray); refine (HC2.out _).mono ?_; rintro e w6 ⟨rfl, hb6⟩; have HB6 := Lib.hid (HB5.out.trans (hb6.mono HB5.out.size)); have HB6a := Lib.hid (HB6.out.alloc HB6.out.size (.cells #[.int .u8 b] 5)))
      | (go_at_call 19; refine (HMX.out _ HB6a.out).mono ?_; rintro e w7 ⟨rfl, hb7⟩; have HB7 := Lib.hid (HB6a.out.trans (hb7.mono HB6a.out.size)))
      | (go_at_call 12; refine (HK.out _).mono ?_; rintro e w8 ⟨rfl, hb8⟩))
    go_ret
    exact ⟨rfl, HB3.out.trans ((HB7.out.trans (hb8.mono HB7.out.size)).mono hz3)⟩
  | false =>
    go_wp2_with (first
      | (refine wpList_load_mid rfl 37 (.tmp 75) rfl b1 o1 rfl (atC X1) _ (HG1.out _ HB4.out) hu rfl (by rw [hi, atC_len]) ?_)
      | (go_at_call_of 18 (Value.agg (atC X1).toArray); refine (HC1.out _).mono ?_; rintro e w5 ⟨rfl, hb5⟩; have HB5 := Lib.hid (HB4.out.trans (hb5.mono HB4.out.size)))
      | (refine wpList_load_mid_g rfl 37 (.tmp 84) rfl b2 o2 rfl (atC X2) _ (HG2.out _ HB5.out) hu rfl (by rw [hi, atC_len]) ?_)
      | (go_at_call_of 18 (Value.agg (atC X2).toArray); refine (HC2.out _).mono ?_; rintro e w6 ⟨rfl, hb6⟩; have HB6 := Lib.hid (HB5.out.trans (hb6.mono HB5.out.size)); have HB6a := Lib.hid (HB6.out.alloc HB6.out.size (.cells #[.int .u8 b] 5)))
      | (go_at_call 19; refine (HMX.out _ HB6a.out).mono ?_; rintro e w7 ⟨rfl, hb7⟩; have HB7 := Lib.hid (HB6a.out.trans (hb7.mono HB6a.out.size)))
      | (go_at_call 12; refine (HK.out _).mono ?_; rintro e w8 ⟨rfl, hb8⟩))
    go_ret
    exact ⟨rfl, HB3.out.trans ((HB7.out.trans (hb8.mono HB7.out.size)).mono hz3)⟩

set_option maxRecDepth 100000 in
set_option maxHeartbeats 16000000 in
theorem sets_4 (x : Int) (b : Nat) (w : World) (hx : IntIn x) (hb : b < 256) (hz : x % 6 = 4) :
    Calls Try.prog 4 #[.int .i64 x, .int .u8 b] w fun e w' => e = .returned (.bool true) ∧ Below w.heap.size w w' := by
  have HK := Lib.hid known_any
  have HPL := Lib.hid (fun w => place_any x 6 w hx (by decide) (by decide))
  rw [hz] at HPL
  clear hz
  have hcv := fun (w : World) => run_string_of_byte (P := Try.prog) 39 9 5 Try.underlying39 Try.underlying5 Try.underlying9 b (by omega) (by omega) w
  go_enter Try.func4, Try.ntmps4
  go_upto_region 2 with (go_at_call 17; refine (HPL.out _).mono ?_; rintro e w' ⟨rfl, rfl⟩)
  clear HPL
  obtain ⟨X0, HX0⟩ : ∃ X : At, Hid (X = ⟨kindP 5, 1, false⟩) := ⟨⟨kindP 5, 1, false⟩, rfl⟩
  have HP0 : Hid (∀ w, Calls Try.prog 14 #[.string ⟨#[92, 109]⟩] w fun e w' => ∃ v, e = .returned (.tuple #[v, .int .i64 0, .int .i64 0]) ∧ OwnE 37 atC 34 w' w.heap.size v [X0] ∧ Below w.heap.size w w') := fun w => by
    have h := parse_any w (⟨#[92, 109]⟩ : ByteArray) (by decide)
    rw [ps_4_0, ← HX0.out] at h
    exact h
  obtain ⟨X1, HX1⟩ : ∃ X : At, Hid (X = ⟨notP (kindP 5), 1, false⟩) := ⟨⟨notP (kindP 5), 1, false⟩, rfl⟩
  have HP1 : Hid (∀ w, Calls Try.prog 14 #[.string ⟨#[92, 77]⟩] w fun e w' => ∃ v, e = .returned (.tuple #[v, .int .i64 0, .int .i64 0]) ∧ OwnE 37 atC 34 w' w.heap.size v [X1] ∧ Below w.heap.size w w') := fun w => by
    have h := parse_any w (⟨#[92, 77]⟩ : ByteArray) (by decide)
    rw [ps_4_1, ← HX1.out] at h
    exact h
  obtain ⟨X2, HX2⟩ : ∃ X : At, Hid (X = ⟨orP noP (kindP 5), 1, false⟩) := ⟨⟨orP noP (kindP 5), 1, false⟩, rfl⟩
  have HP2 : Hid (∀ w, Calls Try.prog 14 #[.string ⟨#[91, 92, 109, 93]⟩] w fun e w' => ∃ v, e = .returned (.tuple #[v, .int .i64 0, .int .i64 0]) ∧ OwnE 37 atC 34 w' w.heap.size v [X2] ∧ Below w.heap.size w w') := fun w => by
    have h := parse_any w (⟨#[91, 92, 109, 93]⟩ : ByteArray) (by decide)
    rw [ps_4_2, ← HX2.out] at h
    exact h
  obtain ⟨px, HPX⟩ : ∃ px : Bool, Hid (px = kindP 5 b) := ⟨kindP 5 b, rfl⟩
  have HC0 : Hid (∀ w, Calls Try.prog 18 #[.agg (atC X0).toArray, .int .u8 b] w fun e w' => e = .returned (.bool px) ∧ Below w.heap.size w w') := fun w => by
    have h := contains_any X0 b w hb
    rw [show X0.p b = px by rw [HX0.out, HPX.out]] at h
    exact h
  have HC1 : Hid (∀ w, Calls Try.prog 18 #[.agg (atC X1).toArray, .int .u8 b] w fun e w' => e = .returned (.bool (!px)) ∧ Below w.heap.size w w') := fun w => by
    have h := contains_any X1 b w hb
    rw [show X1.p b = !px by rw [HX1.out, HPX.out]; rfl] at h
    exact h
  have HC2 : Hid (∀ w, Calls Try.prog 18 #[.agg (atC X2).toArray, .int .u8 b] w fun e w' => e = .returned (.bool px) ∧ Below w.heap.size w w') := fun w => by
    have h := contains_any X2 b w hb
    rw [show X2.p b = px by rw [HX2.out, HPX.out]; rfl] at h
    exact h
  have HMM : Hid (matchF [X0] (⟨#[UInt8.ofNat ((b : Int)).toNat]⟩ : ByteArray) = px) := by
    show _ = _
    rw [match_byte X0 b hb (by rw [HX0.out]) (by rw [HX0.out]), HX0.out, HPX.out]
  clear HX0 HX1 HX2 HPX
  go_upto_region 3 with (go_at_call 14; refine (HP0.out _).mono ?_; rintro e w1 ⟨v0, rfl, ho0, hb0⟩)
  have HR0 := Lib.hid (OwnE.rd atC_len ho0)
  obtain ⟨A0, c0, hv0⟩ := own_shape ho0
  have HB0 := Lib.hid (((Below.refl w.heap.size w).alloc (Nat.le_refl _) _).trans (hb0.mono (by simp)))
  clear ho0 hb0
  go_upto_region 4 with (go_at_call 14; refine (HP1.out _).mono ?_; rintro e w2 ⟨v1, rfl, ho1, hb1⟩)
  have HR1 := Lib.hid (OwnE.rd atC_len ho1)
  obtain ⟨A1, c1, hv1⟩ := own_shape ho1
  have HW1 := Lib.hid (((Below.refl w1.heap.size w1).alloc (Nat.le_refl _) _).trans (hb1.mono (by simp)))
  clear ho1 hb1
  go_upto_region 5 with (go_at_call 14; refine (HP2.out _).mono ?_; rintro e w3 ⟨v2, rfl, ho2, hb2⟩)
  have HR2 := Lib.hid (OwnE.rd atC_len ho2)
  obtain ⟨A2, c2, hv2⟩ := own_shape ho2
  have HW2 := Lib.hid (((Below.refl w2.heap.size w2).alloc (Nat.le_refl _) _).trans (hb2.mono (by simp)))
  clear ho2 hb2 HP0 HP1 HP2
  subst hv0 hv1 hv2
  have HQ0 := Lib.hid ((HR0.out.below HW1.out (Nat.le_refl _)).below HW2.out (Nat.le_refl _))
  have HQ1 := Lib.hid (HR1.out.below HW2.out (Nat.le_refl _))
  have HB3 := Lib.hid ((HB0.out.trans (HW1.out.mono HB0.out.size)).trans (HW2.out.mono (Nat.le_trans HB0.out.size HW1.out.size)))
  have hz3 := HB3.out.size
  clear HR0 HR1 HB0 HW1 HW2
  obtain ⟨b0, o0, rfl, hl0, hc0⟩ := HQ0.out.cells Nat.zero_lt_one
  obtain ⟨b1, o1, rfl, hl1, hc1⟩ := HQ1.out.cells Nat.zero_lt_one
  obtain ⟨b2, o2, rfl, hl2, hc2⟩ := HR2.out.cells Nat.zero_lt_one
  have HG0 : Hid (∀ W, Below w3.heap.size w3 W → W.rangeAt b0 o0 (atC X0)) := fun W h j v hj => by
    have := hc0 0 X0 j v rfl hj
    rw [Nat.zero_mul, Nat.zero_add] at this
    exact (h.cell (p := ⟨b0, o0 + j, none⟩) hl0).trans this
  have HG1 : Hid (∀ W, Below w3.heap.size w3 W → W.rangeAt b1 o1 (atC X1)) := fun W h j v hj => by
    have := hc1 0 X1 j v rfl hj
    rw [Nat.zero_mul, Nat.zero_add] at this
    exact (h.cell (p := ⟨b1, o1 + j, none⟩) hl1).trans this
  have HG2 : Hid (∀ W, Below w3.heap.size w3 W → W.rangeAt b2 o2 (atC X2)) := fun W h j v hj => by
    have := hc2 0 X2 j v rfl hj
    rw [Nat.zero_mul, Nat.zero_add] at this
    exact (h.cell (p := ⟨b2, o2 + j, none⟩) hl2).trans this
  have HMX := Lib.hid (fun (W : World) (h : Below w3.heap.size w3 W) => match_any [X0] (⟨#[UInt8.ofNat ((b : Int)).toNat]⟩ : ByteArray) _ W (HQ0.out.below h (Nat.le_refl _)) (show 1 ≤ 2147483648 by decide) (show 1 ≤ 140737488355328 by decide))
  rw [HMM.out] at HMX
  clear hc0 hc1 hc2 HMM HQ0 HQ1 HR2
  have hu := Try.underlying37
  have hi : (Try.prog.info? 37).map (·.size) = some 34 := atom_size
  go_upto_region 8 with (first
    | (refine wpList_load_mid rfl 37 (.tmp 70) rfl b0 o0 rfl (atC X0) _ (HG0.out _ (Below.refl _ _)) hu rfl (by rw [hi, atC_len]) ?_)
    | (go_at_call 18; refine (HC0.out _).mono ?_; rintro e w4 ⟨rfl, hb4⟩))
  have HB4 := Lib.hid hb4
  clear hb4
  cases px with
  | true =>
    go_wp2_with (first
      | (refine wpList_load_mid rfl 37 (.tmp 75) rfl b1 o1 rfl (atC X1) _ (HG1.out _ HB4.out) hu rfl (by rw [hi, atC_len]) ?_)
      | (go_at_call_of 18 (Value.agg (atC X1).toArray); refine (HC1.out _).mono ?_; rintro e w5 ⟨rfl, hb5⟩; have HB5 := Lib.hid (HB4.out.trans (hb5.mono HB4.out.size)))
      | (refine wpList_load_mid_g rfl 37 (.tmp 84) rfl b2 o2 rfl (atC X2) _ (HG2.out _ HB5.out) hu rfl (by rw [hi, atC_len]) ?_)
      | (go_at_call_of 18 (Value.agg (atC X2).toArray); refine (HC2.out _).mono ?_; rintro e w6 ⟨rfl, hb6⟩; have HB6 := Lib.hid (HB5.out.trans (hb6.mono HB5.out.size)); have HB6a := Lib.hid (HB6.out.alloc HB6.out.size (.cells #[.int .u8 b] 5)))
      | (go_at_call 19; refine (HMX.out _ HB6a.out).mono ?_; rintro e w7 ⟨rfl, hb7⟩; have HB7 := Lib.hid (HB6a.out.trans (hb7.mono HB6a.out.size)))
      | (go_at_call 12; refine (HK.out _).mono ?_; rintro e w8 ⟨rfl, hb8⟩))
    go_ret
    exact ⟨rfl, HB3.out.trans ((HB7.out.trans (hb8.mono HB7.out.size)).mono hz3)⟩
  | false =>
    go_wp2_with (first
      | (refine wpList_load_mid rfl 37 (.tmp 75) rfl b1 o1 rfl (atC X1) _ (HG1.out _ HB4.out) hu rfl (by rw [hi, atC_len]) ?_)
      | (go_at_call_of 18 (Value.agg (atC X1).toArray); refine (HC1.out _).mono ?_; rintro e w5 ⟨rfl, hb5⟩; have HB5 := Lib.hid (HB4.out.trans (hb5.mono HB4.out.size)))
      | (refine wpList_load_mid_g rfl 37 (.tmp 84) rfl b2 o2 rfl (atC X2) _ (HG2.out _ HB5.out) hu rfl (by rw [hi, atC_len]) ?_)
      | (go_at_call_of 18 (Value.agg (atC X2).toArray); refine (HC2.out _).mono ?_; rintro e w6 ⟨rfl, hb6⟩; have HB6 := Lib.hid (HB5.out.trans (hb6.mono HB5.out.size)); have HB6a := Lib.hid (HB6.out.alloc HB6.out.size (.cells #[.int .u8 b] 5)))
      | (go_at_call 19; refine (HMX.out _ HB6a.out).mono ?_; rintro e w7 ⟨rfl, hb7⟩; have HB7 := Lib.hid (HB6a.out.trans (hb7.mono HB6a.out.size)))
      | (go_at_call 12; refine (HK.out _).mono ?_; rintro e w8 ⟨rfl, hb8⟩))
    go_ret
    exact ⟨rfl, HB3.out.trans ((HB7.out.trans (hb8.mono HB7.out.size)).mono hz3)⟩

set_option maxRecDepth 100000 in
set_option maxHeartbeats 16000000 in
theorem sets_5 (x : Int) (b : Nat) (w : World) (hx : IntIn x) (hb : b < 256) (hz : x % 6 = 5) :
    Calls Try.prog 4 #[.int .i64 x, .int .u8 b] w fun e w' => e = .returned (.bool true) ∧ Below w.heap.size w w' := by
  have HK := Lib.hid known_any
  have HPL := Lib.hid (fun w => place_any x 6 w hx (by decide) (by decide))
  rw [hz] at HPL
  clear hz
  have hcv := fun (w : World) => run_string_of_byte (P := Try.prog) 39 9 5 Try.underlying39 Try.underlying5 Try.underlying9 b (by omega) (by omega) w
  go_enter Try.func4, Try.ntmps4
  go_upto_region 2 with (go_at_call 17; refine (HPL.out _).mono ?_; rintro e w' ⟨rfl, rfl⟩)
  clear HPL
  obtain ⟨X0, HX0⟩ : ∃ X : At, Hid (X = ⟨kindP 0, 1, false⟩) := ⟨⟨kindP 0, 1, false⟩, rfl⟩
  have HP0 : Hid (∀ w, Calls Try.prog 14 #[.string ⟨#[92, 117]⟩] w fun e w' => ∃ v, e = .returned (.tuple #[v, .int .i64 0, .int .i64 0]) ∧ OwnE 37 atC 34 w' w.heap.size v [X0] ∧ Below w.heap.size w w') := fun w => by
    have h := parse_any w (⟨#[92, 117]⟩ : ByteArray) (by decide)
    rw [ps_5_0, ← HX0.out] at h
    exact h
  obtain ⟨X1, HX1⟩ : ∃ X : At, Hid (X = ⟨notP (kindP 0), 1, false⟩) := ⟨⟨notP (kindP 0), 1, false⟩, rfl⟩
  have HP1 : Hid (∀ w, Calls Try.prog 14 #[.string ⟨#[92, 85]⟩] w fun e w' => ∃ v, e = .returned (.tuple #[v, .int .i64 0, .int .i64 0]) ∧ OwnE 37 atC 34 w' w.heap.size v [X1] ∧ Below w.heap.size w w') := fun w => by
    have h := parse_any w (⟨#[92, 85]⟩ : ByteArray) (by decide)
    rw [ps_5_1, ← HX1.out] at h
    exact h
  obtain ⟨X2, HX2⟩ : ∃ X : At, Hid (X = ⟨orP noP (kindP 0), 1, false⟩) := ⟨⟨orP noP (kindP 0), 1, false⟩, rfl⟩
  have HP2 : Hid (∀ w, Calls Try.prog 14 #[.string ⟨#[91, 92, 117, 93]⟩] w fun e w' => ∃ v, e = .returned (.tuple #[v, .int .i64 0, .int .i64 0]) ∧ OwnE 37 atC 34 w' w.heap.size v [X2] ∧ Below w.heap.size w w') := fun w => by
    have h := parse_any w (⟨#[91, 92, 117, 93]⟩ : ByteArray) (by decide)
    rw [ps_5_2, ← HX2.out] at h
    exact h
  obtain ⟨px, HPX⟩ : ∃ px : Bool, Hid (px = kindP 0 b) := ⟨kindP 0 b, rfl⟩
  have HC0 : Hid (∀ w, Calls Try.prog 18 #[.agg (atC X0).toArray, .int .u8 b] w fun e w' => e = .returned (.bool px) ∧ Below w.heap.size w w') := fun w => by
    have h := contains_any X0 b w hb
    rw [show X0.p b = px by rw [HX0.out, HPX.out]] at h
    exact h
  have HC1 : Hid (∀ w, Calls Try.prog 18 #[.agg (atC X1).toArray, .int .u8 b] w fun e w' => e = .returned (.bool (!px)) ∧ Below w.heap.size w w') := fun w => by
    have h := contains_any X1 b w hb
    rw [show X1.p b = !px by rw [HX1.out, HPX.out]; rfl] at h
    exact h
  have HC2 : Hid (∀ w, Calls Try.prog 18 #[.agg (atC X2).toArray, .int .u8 b] w fun e w' => e = .returned (.bool px) ∧ Below w.heap.size w w') := fun w => by
    have h := contains_any X2 b w hb
    rw [show X2.p b = px by rw [HX2.out, HPX.out]; rfl] at h
    exact h
  have HMM : Hid (matchF [X0] (⟨#[UInt8.ofNat ((b : Int)).toNat]⟩ : ByteArray) = px) := by
    show _ = _
    rw [match_byte X0 b hb (by rw [HX0.out]) (by rw [HX0.out]), HX0.out, HPX.out]
  clear HX0 HX1 HX2 HPX
  go_upto_region 3 with (go_at_call 14; refine (HP0.out _).mono ?_; rintro e w1 ⟨v0, rfl, ho0, hb0⟩)
  have HR0 := Lib.hid (OwnE.rd atC_len ho0)
  obtain ⟨A0, c0, hv0⟩ := own_shape ho0
  have HB0 := Lib.hid (((Below.refl w.heap.size w).alloc (Nat.le_refl _) _).trans (hb0.mono (by simp)))
  clear ho0 hb0
  go_upto_region 4 with (go_at_call 14; refine (HP1.out _).mono ?_; rintro e w2 ⟨v1, rfl, ho1, hb1⟩)
  have HR1 := Lib.hid (OwnE.rd atC_len ho1)
  obtain ⟨A1, c1, hv1⟩ := own_shape ho1
  have HW1 := Lib.hid (((Below.refl w1.heap.size w1).alloc (Nat.le_refl _) _).trans (hb1.mono (by simp)))
  clear ho1 hb1
  go_upto_region 5 with (go_at_call 14; refine (HP2.out _).mono ?_; rintro e w3 ⟨v2, rfl, ho2, hb2⟩)
  have HR2 := Lib.hid (OwnE.rd atC_len ho2)
  obtain ⟨A2, c2, hv2⟩ := own_shape ho2
  have HW2 := Lib.hid (((Below.refl w2.heap.size w2).alloc (Nat.le_refl _) _).trans (hb2.mono (by simp)))
  clear ho2 hb2 HP0 HP1 HP2
  subst hv0 hv1 hv2
  have HQ0 := Lib.hid ((HR0.out.below HW1.out (Nat.le_refl _)).below HW2.out (Nat.le_refl _))
  have HQ1 := Lib.hid (HR1.out.below HW2.out (Nat.le_refl _))
  have HB3 := Lib.hid ((HB0.out.trans (HW1.out.mono HB0.out.size)).trans (HW2.out.mono (Nat.le_trans HB0.out.size HW1.out.size)))
  have hz3 := HB3.out.size
  clear HR0 HR1 HB0 HW1 HW2
  obtain ⟨b0, o0, rfl, hl0, hc0⟩ := HQ0.out.cells Nat.zero_lt_one
  obtain ⟨b1, o1, rfl, hl1, hc1⟩ := HQ1.out.cells Nat.zero_lt_one
  obtain ⟨b2, o2, rfl, hl2, hc2⟩ := HR2.out.cells Nat.zero_lt_one
  have HG0 : Hid (∀ W, Below w3.heap.size w3 W → W.rangeAt b0 o0 (atC X0)) := fun W h j v hj => by
    have := hc0 0 X0 j v rfl hj
    rw [Nat.zero_mul, Nat.zero_add] at this
    exact (h.cell (p := ⟨b0, o0 + j, none⟩) hl0).trans this
  have HG1 : Hid (∀ W, Below w3.heap.size w3 W → W.rangeAt b1 o1 (atC X1)) := fun W h j v hj => by
    have := hc1 0 X1 j v rfl hj
    rw [Nat.zero_mul, Nat.zero_add] at this
    exact (h.cell (p := ⟨b1, o1 + j, none⟩) hl1).trans this
  have HG2 : Hid (∀ W, Below w3.heap.size w3 W → W.rangeAt b2 o2 (atC X2)) := fun W h j v hj => by
    have := hc2 0 X2 j v rfl hj
    rw [Nat.zero_mul, Nat.zero_add] at this
    exact (h.cell (p := ⟨b2, o2 + j, none⟩) hl2).trans this
  have HMX := Lib.hid (fun (W : World) (h : Below w3.heap.size w3 W) => match_any [X0] (⟨#[UInt8.ofNat ((b : Int)).toNat]⟩ : ByteArray) _ W (HQ0.out.below h (Nat.le_refl _)) (show 1 ≤ 2147483648 by decide) (show 1 ≤ 140737488355328 by decide))
  rw [HMM.out] at HMX
  clear hc0 hc1 hc2 HMM HQ0 HQ1 HR2
  have hu := Try.underlying37
  have hi : (Try.prog.info? 37).map (·.size) = some 34 := atom_size
  go_upto_region 8 with (first
    | (refine wpList_load_mid rfl 37 (.tmp 70) rfl b0 o0 rfl (atC X0) _ (HG0.out _ (Below.refl _ _)) hu rfl (by rw [hi, atC_len]) ?_)
    | (go_at_call 18; refine (HC0.out _).mono ?_; rintro e w4 ⟨rfl, hb4⟩))
  have HB4 := Lib.hid hb4
  clear hb4
  cases px with
  | true =>
    go_wp2_with (first
      | (refine wpList_load_mid rfl 37 (.tmp 75) rfl b1 o1 rfl (atC X1) _ (HG1.out _ HB4.out) hu rfl (by rw [hi, atC_len]) ?_)
      | (go_at_call_of 18 (Value.agg (atC X1).toArray); refine (HC1.out _).mono ?_; rintro e w5 ⟨rfl, hb5⟩; have HB5 := Lib.hid (HB4.out.trans (hb5.mono HB4.out.size)))
      | (refine wpList_load_mid_g rfl 37 (.tmp 84) rfl b2 o2 rfl (atC X2) _ (HG2.out _ HB5.out) hu rfl (by rw [hi, atC_len]) ?_)
      | (go_at_call_of 18 (Value.agg (atC X2).toArray); refine (HC2.out _).mono ?_; rintro e w6 ⟨rfl, hb6⟩; have HB6 := Lib.hid (HB5.out.trans (hb6.mono HB5.out.size)); have HB6a := Lib.hid (HB6.out.alloc HB6.out.size (.cells #[.int .u8 b] 5)))
      | (go_at_call 19; refine (HMX.out _ HB6a.out).mono ?_; rintro e w7 ⟨rfl, hb7⟩; have HB7 := Lib.hid (HB6a.out.trans (hb7.mono HB6a.out.size)))
      | (go_at_call 12; refine (HK.out _).mono ?_; rintro e w8 ⟨rfl, hb8⟩))
    go_ret
    exact ⟨rfl, HB3.out.trans ((HB7.out.trans (hb8.mono HB7.out.size)).mono hz3)⟩
  | false =>
    go_wp2_with (first
      | (refine wpList_load_mid rfl 37 (.tmp 75) rfl b1 o1 rfl (atC X1) _ (HG1.out _ HB4.out) hu rfl (by rw [hi, atC_len]) ?_)
      | (go_at_call_of 18 (Value.agg (atC X1).toArray); refine (HC1.out _).mono ?_; rintro e w5 ⟨rfl, hb5⟩; have HB5 := Lib.hid (HB4.out.trans (hb5.mono HB4.out.size)))
      | (refine wpList_load_mid_g rfl 37 (.tmp 84) rfl b2 o2 rfl (atC X2) _ (HG2.out _ HB5.out) hu rfl (by rw [hi, atC_len]) ?_)
      | (go_at_call_of 18 (Value.agg (atC X2).toArray); refine (HC2.out _).mono ?_; rintro e w6 ⟨rfl, hb6⟩; have HB6 := Lib.hid (HB5.out.trans (hb6.mono HB5.out.size)); have HB6a := Lib.hid (HB6.out.alloc HB6.out.size (.cells #[.int .u8 b] 5)))
      | (go_at_call 19; refine (HMX.out _ HB6a.out).mono ?_; rintro e w7 ⟨rfl, hb7⟩; have HB7 := Lib.hid (HB6a.out.trans (hb7.mono HB6a.out.size)))
      | (go_at_call 12; refine (HK.out _).mono ?_; rintro e w8 ⟨rfl, hb8⟩))
    go_ret
    exact ⟨rfl, HB3.out.trans ((HB7.out.trans (hb8.mono HB7.out.size)).mono hz3)⟩

theorem walk_PatternSets (x y : Int) (w : World) (hx0 : (Lit.int .i64 x).wf = true) (hy0 : (Lit.int .u8 y).wf = true) :
    Calls Try.prog 4 #[.int .i64 x, .int .u8 y] w fun e w' => e = .returned (.bool true) ∧ Below w.heap.size w w' := by
  have hx : IntIn x := by simpa [Lit.wf, IntKind.min, IntKind.max, IntKind.signed, IntKind.bits, IntIn] using hx0
  have hy : 0 ≤ y ∧ y < 256 := by
    have h := hy0
    simp [Lit.wf, IntKind.min, IntKind.max, IntKind.signed, IntKind.bits] at h
    omega
  obtain ⟨b, rfl⟩ : ∃ b : Nat, y = (b : Int) := ⟨y.toNat, by omega⟩
  have hb : b < 256 := by omega
  have hz1 := Int.emod_nonneg x (show (6 : Int) ≠ 0 by decide)
  have hz2 := Int.emod_lt_of_pos x (show (0 : Int) < 6 by decide)
  rcases (show x % 6 = 0 ∨ x % 6 = 1 ∨ x % 6 = 2 ∨ x % 6 = 3 ∨ x % 6 = 4 ∨ x % 6 = 5 by omega) with h | h | h | h | h | h
  · exact sets_0 x b w hx hb h
  · exact sets_1 x b w hx hb h
  · exact sets_2 x b w hx hb h
  · exact sets_3 x b w hx hb h
  · exact sets_4 x b w hx hb h
  · exact sets_5 x b w hx hb h

end Go.Proofs.Ytanpiidhcijfaaa
