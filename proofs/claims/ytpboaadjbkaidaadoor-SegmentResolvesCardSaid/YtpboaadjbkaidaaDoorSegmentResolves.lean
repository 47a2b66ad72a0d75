
/-
  The statement SegmentResolves: the walk.
-/
import Derived.Test.YtpboaadjbkaidaaDoorPack7
import Derived.Test.YtpboaadjbkaidaaDoorPack8
namespace Go.Proofs.YtpboaadjbkaidaaDoor
set_option maxRecDepth 100000
open Go.RowKit

theorem tablesM_in2 (L : List Int) : TbIn (tablesM L) := by
  have h := tablesM_ok L
  refine ⟨Nat.le_trans h.1 (by unfold maxLen; decide), fun t ht => ?_⟩
  have := h.2 t ht
  exact ⟨Nat.le_trans this.1 (by unfold maxLen; decide), Nat.le_trans this.2.1 (by unfold maxLen; decide)⟩
theorem lit_small {rs : List Ru} (h : RuLit 128 rs) : RuSmall rs :=
  ⟨Nat.le_trans h.1 (by decide), fun r hr => ⟨Nat.le_trans (h.2 r hr).1 (by decide), Nat.le_trans (h.2 r hr).2 (by decide)⟩⟩
def name7 : List ByteArray := [⟨#[97]⟩, ⟨#[98]⟩, ⟨#[99]⟩, ⟨#[100]⟩, ⟨#[101]⟩, ⟨#[102]⟩, ⟨#[103]⟩]

set_option maxRecDepth 100000 in
set_option maxHeartbeats 16000000 in
theorem walk_SegmentResolves (A0 : Option Addr) (n0 c0 : Nat) (ts : List Tb) (A : Option Addr) (n c : Nat) (l : List Int) (nm : ByteArray) (k : Int) (w : World) (hg : Got w) (ht : n0 = ts.length ∧ TbIn ts ∧ RdTb w (.slice A0 n0 c0) ts ∧ ∀ t ∈ ts, t.rs.length ≤ maxLen)
    (h0 : n = l.length ∧ l.length ≤ maxLen ∧ RdE intC 1 w (.slice A n c) l ∧ ∀ x ∈ l, IntIn x) (hnm : nm.size ≤ maxLen) (hk : (Lit.int .i64 k).wf = true) :
    Calls Tryd.prog 10 #[.slice A0 n0 c0, .slice A n c, .string nm, .int .i64 k] w fun e w' => e = .returned (.bool true) ∧ Below w.heap.size w w' := by
  obtain ⟨hn0, htn, hrt, hrl⟩ := ht
  obtain ⟨hn, hlm, hr, hin⟩ := h0
  subst hn0 hn
  have hki := wf_i64 hk
  unfold maxLen at hlm hnm
  have HK := Lib.hid (fun (w' : World) (h : Below w.heap.size w w') => known6_any w' (got_below hg h))
  have HL := Lib.hid (light_any ts _ w hrt htn hrl)
  go_enter Tryd.func10, Tryd.ntmps10
  have HV1 := Lib.hid (fun (w' : World) (h : Below w.heap.size w w') => segResolve_any ts _ nm w' (hrt.below h (Nat.le_refl _)) htn)
  have HV2 := Lib.hid (fun (w' : World) (h : Below w.heap.size w w') => rResolve_any ts _ nm w' (hrt.below h (Nat.le_refl _)) htn)
  have HT := Lib.hid (fun (w' : World) (h : Below w.heap.size w w') => tables6_any A c l w' (hr.below h (Nat.le_refl _)) hin)
  have hz1 := Int.emod_nonneg k (show (7 : Int) ≠ 0 by decide)
  have hz2 := Int.emod_lt_of_pos k (show (0 : Int) < 7 by decide)
  have HPL := Lib.hid (fun w' => place_any k 7 w' hki (by decide) (by decide))
  generalize k % 7 = z at hz1 hz2 HPL
  obtain ⟨n7, HN7⟩ : ∃ n7, Hid (name7.getD z.toNat ⟨#[]⟩ = n7) := ⟨_, rfl⟩
  have hti := tablesM_in2 l
  generalize tablesM l = tm at HT hti
  have hs1 := lit_small (resF_lit ts nm)
  have hs2 := lit_small (resF_lit tm n7)
  have HW1 := Lib.hid (fun (v : Value) (w' : World) (h : RdTb w' v tm) => segResolve_any tm v n7 w' h hti)
  have HW2 := Lib.hid (fun (v : Value) (w' : World) (h : RdTb w' v tm) => rResolve_any tm v n7 w' h hti)
  unfold RetRes at HV1 HV2 HW1 HW2
  generalize resF ts nm = r1 at HV1 HV2 hs1
  generalize resF tm n7 = r2 at HW1 HW2 hs2
  obtain ⟨l1, x1⟩ := r1
  obtain ⟨l2, x2⟩ := r2
  simp only at HV1 HV2 HW1 HW2 hs1 hs2
  have t1 : (x1 == x1) = true := beq_self_eq_true _
  have t2 : (x2 == x2) = true := beq_self_eq_true _
  clear hr hin hti hrt htn hrl
  by_cases h60 : 100 < l.length
  · have h60i : (100 : Int) < (l.length : Int) := by omega
    go_wp2_with (first
      | (go_at_call 25; refine HL.out.mono ?_; rintro e w1 ⟨b, rfl, hb1⟩; cases b)
      | (go_at_call 17; refine (HK.out _ hb1).mono ?_; rintro e w2 ⟨rfl, hb2⟩))
    all_goals
      go_ret
      exact ⟨rfl, hb1.trans (hb2.mono hb1.size)⟩
  have h60i : ¬ (100 : Int) < (l.length : Int) := by omega
  by_cases h61 : 60 < nm.size
  · have h61i : (60 : Int) < (nm.size : Int) := by omega
    go_wp2_with (first
      | (go_at_call 25; refine HL.out.mono ?_; rintro e w1 ⟨b, rfl, hb1⟩; cases b)
      | (go_at_call 17; refine (HK.out _ hb1).mono ?_; rintro e w2 ⟨rfl, hb2⟩))
    all_goals
      go_ret
      exact ⟨rfl, hb1.trans (hb2.mono hb1.size)⟩
  have h61i : ¬ (60 : Int) < (nm.size : Int) := by omega
  go_upto_region 3 with (first
    | (go_at_call 25; refine HL.out.mono ?_; rintro e w1 ⟨b, rfl, hb1⟩; have HB1 := Lib.hid hb1; cases b)
    | (go_at_call 17; refine (HK.out _ HB1.out).mono ?_; rintro e w2 ⟨rfl, hb2⟩))
  · go_ret
    exact ⟨rfl, HB1.out.trans (hb2.mono HB1.out.size)⟩
  clear HL hb1
  go_upto_region 5 with (first
    | (go_at_call 39; refine (HV1.out _ HB1.out).mono ?_; rintro e w2 ⟨v2, rfl, hr2, hb2⟩; obtain ⟨A2, c2, hv2⟩ := hr2.shape; subst hv2; have HB2 := Lib.hid (HB1.out.trans (hb2.mono HB1.out.size)); have HR2 := Lib.hid hr2; clear hr2 hb2)
    | (go_at_call 40; refine (HV2.out _ HB2.out).mono ?_; rintro e w3 ⟨v3, rfl, hr3, hb3⟩; obtain ⟨A3, c3, hv3⟩ := hr3.shape; subst hv3; have HB3 := Lib.hid (HB2.out.trans (hb3.mono HB2.out.size)); have HR23 := Lib.hid (HR2.out.below hb3 (Nat.le_refl _)); have HR3 := Lib.hid hr3; clear hr3 hb3))
  have HQ4 : Hid ((w3.alloc (.cells #[.string ⟨#[97]⟩, .string ⟨#[98]⟩, .string ⟨#[99]⟩, .string ⟨#[100]⟩, .string ⟨#[101]⟩, .string ⟨#[102]⟩, .string ⟨#[103]⟩] 9)).cell? ⟨w3.heap.size, z.toNat, none⟩ = some (.string n7)) := by
    show _ = _
    rw [← HN7.out]
    exact cells_strs w3 _ rfl name7 9 z.toNat (by show _ < 7; omega)
  have HN4 := Lib.hid ((Below.refl w3.heap.size w3).alloc (Nat.le_refl _) (.cells #[.string ⟨#[97]⟩, .string ⟨#[98]⟩, .string ⟨#[99]⟩, .string ⟨#[100]⟩, .string ⟨#[101]⟩, .string ⟨#[102]⟩, .string ⟨#[103]⟩] 9))
  have q4 := HQ4.out
  go_upto_region 6 with (go_at_call 14; refine (HPL.out _).mono ?_; rintro e w4 ⟨rfl, rfl⟩)
  clear q4 HQ4
  have HB4 := Lib.hid (HB3.out.trans (HN4.out.mono HB3.out.size))
  have HR24 := Lib.hid (HR23.out.below HN4.out (Nat.le_refl _))
  have HR34 := Lib.hid (HR3.out.below HN4.out (Nat.le_refl _))
  clear HR2 HR23 HR3 HN4
  generalize w3.alloc (.cells #[.string ⟨#[97]⟩, .string ⟨#[98]⟩, .string ⟨#[99]⟩, .string ⟨#[100]⟩, .string ⟨#[101]⟩, .string ⟨#[102]⟩, .string ⟨#[103]⟩] 9) = w4 at HB4 HR24 HR34 ⊢
  go_upto_region 7 with (first
    | (go_at_call 26; refine (HT.out _ HB4.out).mono ?_; rintro e w5 ⟨v5, rfl, hr5, hb5⟩; obtain ⟨A5, c5, hv5⟩ := hr5.shape; subst hv5; have HB5 := Lib.hid (HB4.out.trans (hb5.mono HB4.out.size)); have HR25 := Lib.hid (HR24.out.below hb5 (Nat.le_refl _)); have HR35 := Lib.hid (HR34.out.below hb5 (Nat.le_refl _)); have HM5 := Lib.hid hr5; clear hr5 hb5)
    | (go_at_call 39; refine (HW1.out _ _ HM5.out).mono ?_; rintro e w6 ⟨v6, rfl, hr6, hb6⟩; obtain ⟨A6, c6, hv6⟩ := hr6.shape; subst hv6; have HB6 := Lib.hid (HB5.out.trans (hb6.mono HB5.out.size)); have HR26 := Lib.hid (HR25.out.below hb6 (Nat.le_refl _)); have HR36 := Lib.hid (HR35.out.below hb6 (Nat.le_refl _)); have HR6 := Lib.hid hr6; clear hr6 hb6))
  clear HR24 HR34 HR25 HR35 HM5
  go_upto_region 8 with (first
    | (go_at_call 26; refine (HT.out _ HB6.out).mono ?_; rintro e w7 ⟨v7, rfl, hr7, hb7⟩; obtain ⟨A7, c7, hv7⟩ := hr7.shape; subst hv7; have HB7 := Lib.hid (HB6.out.trans (hb7.mono HB6.out.size)); have HR27 := Lib.hid (HR26.out.below hb7 (Nat.le_refl _)); have HR37 := Lib.hid (HR36.out.below hb7 (Nat.le_refl _)); have HR67 := Lib.hid (HR6.out.below hb7 (Nat.le_refl _)); have HM7 := Lib.hid hr7; clear hr7 hb7)
    | (go_at_call 40; refine (HW2.out _ _ HM7.out).mono ?_; rintro e w8 ⟨v8, rfl, hr8, hb8⟩; obtain ⟨A8, c8, hv8⟩ := hr8.shape; subst hv8; have HB8 := Lib.hid (HB7.out.trans (hb8.mono HB7.out.size)); have HR28 := Lib.hid (HR27.out.below hb8 (Nat.le_refl _)); have HR38 := Lib.hid (HR37.out.below hb8 (Nat.le_refl _)); have HR68 := Lib.hid (HR67.out.below hb8 (Nat.le_refl _)); have HR8 := Lib.hid hr8; clear hr8 hb8))
  have HS1 := Lib.hid (sameRules_any l1 _ _ w8 HR28.out HR38.out hs1)
  have HS2 := Lib.hid (fun w' (h : Below w8.heap.size w8 w') => sameRules_any l2 _ _ w' (HR68.out.below h (Nat.le_refl _)) (HR8.out.below h (Nat.le_refl _)) hs2)
  clear HR26 HR36 HR6 HR27 HR37 HR67 HM7 HR28 HR38 HR68 HR8
  go_wp2_with (first
    | (go_at_call_of 41 (Value.slice A2 l1.length c2); refine HS1.out.mono ?_; rintro e w9 ⟨rfl, hb9⟩)
    | (go_at_call_of 41 (Value.slice A6 l2.length c6); refine (HS2.out _ hb9).mono ?_; rintro e w10 ⟨rfl, hb10⟩; have HB10 := Lib.hid (HB8.out.trans ((hb9.trans (hb10.mono hb9.size)).mono HB8.out.size)))
    | (go_at_call 17; refine (HK.out _ HB10.out).mono ?_; rintro e w11 ⟨rfl, hb11⟩))
  go_ret
  exact ⟨rfl, HB10.out.trans (hb11.mono HB10.out.size)⟩

end Go.Proofs.YtpboaadjbkaidaaDoor
