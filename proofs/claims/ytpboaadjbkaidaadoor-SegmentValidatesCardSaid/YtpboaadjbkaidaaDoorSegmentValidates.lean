
/-
  The statement SegmentValidates: the walk.
-/
import Derived.Test.YtpboaadjbkaidaaDoorPack7
namespace Go.Proofs.YtpboaadjbkaidaaDoor
set_option maxRecDepth 100000
open Go.RowKit

theorem fine_in {ts : List Tb} (h : TsFine ts) : TbIn ts := by
  refine ⟨Nat.le_trans h.1 (by unfold maxLen; decide), fun t ht => ?_⟩
  obtain ⟨h1, h2, _, _⟩ := h.2.1 t ht
  have hl : ∀ l : List UInt8, nameL l = true → l.length ≤ 24 := fun l e => by
    by_cases hh : 24 < l.length
    · rw [nameL_long l hh] at e; cases e
    · omega
  have e1 : ∀ s : ByteArray, s.data.toList.length ≤ 24 → s.size ≤ maxLen := fun s hs => by rw [Lib.size_eq]; unfold maxLen; omega
  refine ⟨e1 _ (hl _ h1), ?_⟩
  rcases h2 with h2 | h2
  · exact e1 _ (by rw [h2]; decide)
  · exact e1 _ (hl _ h2)
theorem tablesM_in (L : List Int) : TbIn (tablesM L) := by
  have h := tablesM_ok L
  refine ⟨Nat.le_trans h.1 (by unfold maxLen; decide), fun t ht => ?_⟩
  have := h.2 t ht
  exact ⟨Nat.le_trans this.1 (by unfold maxLen; decide), Nat.le_trans this.2.1 (by unfold maxLen; decide)⟩

set_option maxRecDepth 100000 in
set_option maxHeartbeats 16000000 in
theorem walk_SegmentValidates (A0 : Option Addr) (n0 c0 : Nat) (ts : List Tb) (A : Option Addr) (n c : Nat) (l : List Int) (A2 : Option Addr) (n2 c2 : Nat) (m : List Int) (w : World) (hg : Got w) (ht : n0 = ts.length ∧ TbIn ts ∧ RdTb w (.slice A0 n0 c0) ts ∧ ∀ t ∈ ts, t.rs.length ≤ maxLen)
    (h0 : n = l.length ∧ l.length ≤ maxLen ∧ RdE intC 1 w (.slice A n c) l ∧ ∀ x ∈ l, IntIn x) (h1 : n2 = m.length ∧ m.length ≤ maxLen ∧ RdE intC 1 w (.slice A2 n2 c2) m ∧ ∀ x ∈ m, IntIn x) :
    Calls Tryd.prog 6 #[.slice A0 n0 c0, .slice A n c, .slice A2 n2 c2] w fun e w' => e = .returned (.bool true) ∧ Below w.heap.size w w' := by
  obtain ⟨hn0, htn, hrt, hrl⟩ := ht
  obtain ⟨hn, hlm, hr, hin⟩ := h0
  obtain ⟨hn2, hlm2, hr2, hin2⟩ := h1
  subst hn0 hn hn2
  unfold maxLen at hlm hlm2
  have HK := Lib.hid (fun (w' : World) (h : Below w.heap.size w w') => known6_any w' (got_below hg h))
  have HL := Lib.hid (light_any ts _ w hrt htn hrl)
  have HG := Lib.hid (fun (w' : World) (h : Below w.heap.size w w') => got_below hg h)
  go_enter Tryd.func6, Tryd.ntmps6
  have HV1 := Lib.hid (fun (w' : World) (h : Below w.heap.size w w') => segValidate_any ts _ w' (hrt.below h (Nat.le_refl _)) htn)
  have HV2 := Lib.hid (fun (w' : World) (h : Below w.heap.size w w') => rValidate_any ts _ w' (hrt.below h (Nat.le_refl _)) htn)
  have HT := Lib.hid (fun (w' : World) (h : Below w.heap.size w w') => tables6_any A c l w' (hr.below h (Nat.le_refl _)) hin)
  have HF := Lib.hid (fun (w' : World) (h : Below w.heap.size w w') => file6_any A2 c2 m w' (hr2.below h (Nat.le_refl _)) hin2 (by omega))
  have hti := tablesM_in l
  generalize tablesM l = tm at HT hti
  obtain ⟨x2, HX2⟩ : ∃ x2, Hid (validT tm = x2) := ⟨_, rfl⟩
  have HW1 := Lib.hid (fun (v : Value) (w' : World) (h : RdTb w' v tm) => segValidate_any tm v w' h hti)
  have HW2 := Lib.hid (fun (v : Value) (w' : World) (h : RdTb w' v tm) => rValidate_any tm v w' h hti)
  rw [HX2.out] at HW1 HW2
  generalize validT ts = x1 at HV1 HV2
  have t1 : (x1 == x1) = true := beq_self_eq_true _
  have t2 : (x2 == x2) = true := beq_self_eq_true _
  clear hr hin hr2 hin2 hti HX2 hrt htn hrl
  by_cases h60 : 60 < l.length
  · have h60i : (60 : Int) < (l.length : Int) := by omega
    go_wp2_with (first
      | (go_at_call 25; refine HL.out.mono ?_; rintro e w1 ⟨b, rfl, hb1⟩; cases b)
      | (go_at_call 17; refine (HK.out _ hb1).mono ?_; rintro e w2 ⟨rfl, hb2⟩))
    all_goals
      go_ret
      exact ⟨rfl, hb1.trans (hb2.mono hb1.size)⟩
  have h60i : ¬ (60 : Int) < (l.length : Int) := by omega
  go_upto_region 3 with (first
    | (go_at_call 25; refine HL.out.mono ?_; rintro e w1 ⟨b, rfl, hb1⟩; have HB1 := Lib.hid hb1; cases b)
    | (go_at_call 17; refine (HK.out _ HB1.out).mono ?_; rintro e w2 ⟨rfl, hb2⟩))
  · go_ret
    exact ⟨rfl, HB1.out.trans (hb2.mono HB1.out.size)⟩
  clear HL hb1
  go_upto_region 4 with (first
    | (go_at_call 19; refine (HF.out _ HB1.out).mono ?_; rintro e w2 ⟨u2, hu2, rfl, hb2⟩; have HB2 := Lib.hid (HB1.out.trans (hb2.mono HB1.out.size)); have HP := Lib.hid (segParse_any u2 w2 (HG.out w2 HB2.out)); have hfn := rulesF_fine u2; unfold RetTbs at HP; generalize rulesF u2 = rr at HP hfn; obtain ⟨fs, k, x⟩ := rr; simp only at HP hfn)
    | (go_at_call 20; refine HP.out.mono ?_; rintro e w3 ⟨v3, rfl, hr3, hb3⟩; obtain ⟨A3, c3, hv3⟩ := hr3.shape; subst hv3; have HB3 := Lib.hid (HB2.out.trans (hb3.mono HB2.out.size)); have HR3 := Lib.hid hr3))
  have hfi := fine_in hfn
  have hx3 := validT_fine fs hfn
  have HW3 := Lib.hid (fun (v : Value) (w' : World) (h : RdTb w' v fs) => segValidate_any fs v w' h hfi)
  rw [hx3] at HW3
  clear hfi hfn hx3 hb2 hb3 hr3 HP HF
  go_wp2_with (first
    | (go_at_call_of 23 (Value.slice A0 ts.length c0); refine (HV1.out _ HB3.out).mono ?_; rintro e w4 ⟨rfl, hb4⟩; have HB4 := Lib.hid (HB3.out.trans (hb4.mono HB3.out.size)); have HR4 := Lib.hid (HR3.out.below hb4 (Nat.le_refl _)); clear hb4)
    | (go_at_call_of 24 (Value.slice A0 ts.length c0); refine (HV2.out _ HB4.out).mono ?_; rintro e w5 ⟨rfl, hb5⟩; have HB5 := Lib.hid (HB4.out.trans (hb5.mono HB4.out.size)); have HR5 := Lib.hid (HR4.out.below hb5 (Nat.le_refl _)); clear hb5)
    | (go_at_call 26; (fail_if_success (have := HB6)); refine (HT.out _ HB5.out).mono ?_; rintro e w6 ⟨v6, rfl, hr6, hb6⟩; obtain ⟨A6, c6, hv6⟩ := hr6.shape; subst hv6; have HB6 := Lib.hid (HB5.out.trans (hb6.mono HB5.out.size)); have HR6 := Lib.hid (HR5.out.below hb6 (Nat.le_refl _)); have HM6 := Lib.hid hr6; clear hb6 hr6)
    | (go_at_call_of 23 (Value.slice A6 tm.length c6); refine (HW1.out _ _ HM6.out).mono ?_; rintro e w7 ⟨rfl, hb7⟩; have HB7 := Lib.hid (HB6.out.trans (hb7.mono HB6.out.size)); have HR7 := Lib.hid (HR6.out.below hb7 (Nat.le_refl _)); clear hb7)
    | (go_at_call 26; refine (HT.out _ HB7.out).mono ?_; rintro e w8 ⟨v8, rfl, hr8, hb8⟩; obtain ⟨A8, c8, hv8⟩ := hr8.shape; subst hv8; have HB8 := Lib.hid (HB7.out.trans (hb8.mono HB7.out.size)); have HR8 := Lib.hid (HR7.out.below hb8 (Nat.le_refl _)); have HM8 := Lib.hid hr8; clear hb8 hr8)
    | (go_at_call_of 24 (Value.slice A8 tm.length c8); refine (HW2.out _ _ HM8.out).mono ?_; rintro e w9 ⟨rfl, hb9⟩; have HB9 := Lib.hid (HB8.out.trans (hb9.mono HB8.out.size)); have HR9 := Lib.hid (HR8.out.below hb9 (Nat.le_refl _)); clear hb9)
    | (go_at_call_of 23 (Value.slice A3 fs.length c3); refine (HW3.out _ _ HR9.out).mono ?_; rintro e w10 ⟨rfl, hb10⟩; have HB10 := Lib.hid (HB9.out.trans (hb10.mono HB9.out.size)); clear hb10)
    | (go_at_call 17; refine (HK.out _ HB10.out).mono ?_; rintro e w11 ⟨rfl, hb11⟩))
  go_ret
  exact ⟨rfl, HB10.out.trans (hb11.mono HB10.out.size)⟩


end Go.Proofs.YtpboaadjbkaidaaDoor
