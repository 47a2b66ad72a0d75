
/-
  The walk of the law DistancePrices.
-/
import Derived.Test.YteccphcophjhpaaLaw12B
import Derived.Test.YteccphcophjhpaaPriceP
import Derived.Test.YteccphcophjhpaaPriceR
import Derived.Test.YteccphcophjhpaaAlignR
import Derived.Test.YteccphcophjhpaaEdEq
import Derived.Test.YteccphcophjhpaaOpenEd
import Derived.Test.YteccphcophjhpaaMakeA
namespace Go.Proofs.Yteccphcophjhpaa
open Go.RowKit

set_option maxRecDepth 100000 in
set_option maxHeartbeats 16000000 in
theorem walk_DistancePrices (A0 : Option Addr) (n0 c0 : Nat) (l : List Int) (A1 : Option Addr) (n1 c1 : Nat) (m : List Int) (A2 : Option Addr) (n2 c2 : Nat) (sc : List Ed) (at0 xx : Int) (w : World) (h0 : n0 = l.length ∧ l.length ≤ maxLen ∧ RdE intC 1 w (.slice A0 n0 c0) l ∧ ∀ x ∈ l, IntIn x) (h1 : n1 = m.length ∧ m.length ≤ maxLen ∧ RdE intC 1 w (.slice A1 n1 c1) m ∧ ∀ x ∈ m, IntIn x) (h2 : n2 = sc.length ∧ sc.length ≤ maxLen ∧ RdEd w (.slice A2 n2 c2) sc ∧ ∀ x ∈ sc, True) (h3' : (Lit.int .i64 at0).wf = true) (h4' : (Lit.int .i64 xx).wf = true) :
    Calls Try.prog 8 #[.slice A0 n0 c0, .slice A1 n1 c1, .slice A2 n2 c2, .int .i64 at0, .int .i64 xx] w fun e w' => e = .returned (.bool true) ∧ Below w.heap.size w w' := by
  have h3 : IntIn at0 := wf_i64 h3'
  clear h3' h4'
  obtain ⟨rfl, hl0, hr0, hi0⟩ := h0
  obtain ⟨rfl, hl1, hr1, hi1⟩ := h1
  obtain ⟨rfl, hl2, hr2, _⟩ := h2
  have HI0 := Lib.hid hi0
  have HI1 := Lib.hid hi1
  have HR0 := Lib.hid hr0
  have HR1 := Lib.hid hr1
  have HR2 := Lib.hid hr2
  unfold maxLen at hl0 hl1 hl2
  clear hi0 hi1 hr0 hr1 hr2
  by_cases k0 : 60 < l.length
  · go_enter Try.func8, Try.ntmps8
    go_wp2_with (go_at_call 12; refine (known12_any _).mono ?_; rintro e w' ⟨rfl, hb'⟩)
    go_ret
    exact ⟨rfl, hb'⟩
  by_cases k1 : 60 < m.length
  · go_enter Try.func8, Try.ntmps8
    go_wp2_with (go_at_call 12; refine (known12_any _).mono ?_; rintro e w' ⟨rfl, hb'⟩)
    go_ret
    exact ⟨rfl, hb'⟩
  by_cases k2 : 30 < sc.length
  · go_enter Try.func8, Try.ntmps8
    go_wp2_with (go_at_call 12; refine (known12_any _).mono ?_; rintro e w' ⟨rfl, hb'⟩)
    go_ret
    exact ⟨rfl, hb'⟩
  have M0 := mk_made l 10
  have HM0 := Lib.hid (fun (w : World) (h : RdE intC 1 w (.slice A0 l.length c0) l) => made12_any l 10 _ w h HI0.out (by decide))
  generalize mkT l 10 = a at M0 HM0
  have L0 := M0.len
  have D0 := Lib.hid M0.toD
  have M1 := mk_made m 10
  have HM1 := Lib.hid (fun (w : World) (h : RdE intC 1 w (.slice A1 m.length c1) m) => made12_any m 10 _ w h HI1.out (by decide))
  generalize mkT m 10 = b at M1 HM1
  have L1 := M1.len
  have D1 := Lib.hid M1.toD
  have CP := Lib.hid (fun (e : List Ed) (he : e.length ≤ 1000) (v u s : Value) (w : World) (h : RdT w v a) (h' : RdT w u b) (hs : RdEd w s e) => price_any a b e v u s w h h' hs (by omega) (by omega) (by omega) D0.out D1.out)
  have CR := Lib.hid (fun (e : List Ed) (he : e.length ≤ 1000) (v u s : Value) (w : World) (h : RdT w v a) (h' : RdT w u b) (hs : RdEd w s e) => rprice_any a b e v u s w h h' hs (by omega) (by omega) (by omega) D0.out D1.out)
  have CA := Lib.hid (fun (v u : Value) (w : World) (h : RdT w v a) (h' : RdT w u b) => ralign_any a b v u w h h' (by omega) (by omega) D0.out D1.out)
  have AL := aln_len a b
  generalize alnL a b = S at CA AL
  go_enter Try.func8, Try.ntmps8
  have B0 := Lib.hid (Below.refl w.heap.size w)
  have z0 : w.heap.size ≤ w.heap.size := Nat.le_refl _
  have RL_0 := Lib.hid HR0.out
  have RM_0 := Lib.hid HR1.out
  have RS_0 := Lib.hid HR2.out
  go_wp2_with fail
  refine (HM0.out _ (by exact RL_0.out)).mono ?_
  rintro e w1 ⟨va, rfl, hown, hb⟩
  have Ra_1 := Lib.hid (OwnE.rd tkC_three hown)
  obtain ⟨Aa, ca, hv⟩ := own_shape hown
  subst hv
  have B1 := Lib.hid (B0.out.trans (Below.mono (hb) z0))
  have z1 := B1.out.size
  have RM_1 := Lib.hid (RdE.below RM_0.out (hb) (Nat.le_refl _))
  have RS_1 := Lib.hid (RdE.below RS_0.out (hb) (Nat.le_refl _))
  clear B0 RL_0 RM_0 RS_0
  clear hown hb
  go_wp2_with fail
  refine (HM1.out _ (by exact RM_1.out)).mono ?_
  rintro e w2 ⟨vb, rfl, hown, hb⟩
  have Rb_2 := Lib.hid (OwnE.rd tkC_three hown)
  obtain ⟨Ab, cb, hv⟩ := own_shape hown
  subst hv
  have B2 := Lib.hid (B1.out.trans (Below.mono (hb) z1))
  have z2 := B2.out.size
  have RS_2 := Lib.hid (RdE.below RS_1.out (hb) (Nat.le_refl _))
  have Ra_2 := Lib.hid (RdE.below Ra_1.out (hb) (Nat.le_refl _))
  clear B1 RM_1 RS_1 Ra_1
  clear hown hb
  go_wp2_with fail
  go_loopw [13, 43] (fun ov kv wr => ∃ (k : Nat) (E : List Ed), k ≤ a.length ∧ kv = .int .i64 k ∧ E.length ≤ k ∧ OwnE 43 edC 2 wr w2.heap.size ov E ∧ Hid (Below w2.heap.size w2 wr)) (fun _ kv _ => a.length - (intOf kv).toNat)
  case atStart => exact ⟨0, [], Nat.zero_le _, rfl, Nat.zero_le _, OwnE.nil, Below.refl _ _⟩
  case round =>
    obtain ⟨k, E, hk, rfl, hE, hown, HB⟩ := hrel
    have HO := Lib.hid hown
    obtain ⟨Ao, co, hvo⟩ := own_shape hown
    subst hvo
    clear hown
    have hz := HB.out.size
    by_cases hkl : k < a.length
    · go_wp2_with (at_builtin; go_must (refine wpList_app1 rfl (.tmp 46) (.tmp 49) 41 43 rfl Try.underlying41 _ 2 16 edit_info rfl (by decide) w2.heap.size _ _ _ rfl (by exact World.ownsRow.alloc HO.out _) ⟨wr.heap.size, 0, none⟩ 1 (edC (⟨k, -1⟩)) rfl rfl (by exact cells_new _ _ _) (edC_one _) (by omega) (by decide) (by simp; omega) ?_); intro g9 cap w9 hown1 hg1 hbel1 hgr1)
      have HB9 := Lib.hid (hbel1 _ _ (Nat.le_refl _) (by exact HB.out.alloc HB.out.size _))
      have HO9 := Lib.hid (OwnE.snoc hown1)
      clear hown1 hg1 hbel1 hgr1
      exact ⟨⟨k + 1, E ++ [⟨k, -1⟩], by omega, by go_num, by (rw [List.length_append, List.length_singleton]; omega), HO9.out, HB9.out⟩, by simp [intOf]; try omega⟩
    · obtain rfl : k = a.length := by omega
      clear hkl
      go_wp2_with fail
      have HOs := HO
      have HBs := HB
      go_loopw [13, 54] (fun ov kv wy => ∃ (k : Nat) (E : List Ed), k ≤ b.length ∧ kv = .int .i64 k ∧ E.length ≤ a.length + k ∧ OwnE 43 edC 2 wy w2.heap.size ov E ∧ Hid (Below w2.heap.size w2 wy)) (fun _ kv _ => b.length - (intOf kv).toNat)
      case atStart => exact ⟨0, E, Nat.zero_le _, rfl, hE, HOs.out, HBs.out⟩
      case round =>
        clear HOs HBs HO HB hz hE
        obtain ⟨k, E, hk, rfl, hE, hown, HB⟩ := hrel
        have HO := Lib.hid hown
        obtain ⟨Ao, co, hvo⟩ := own_shape hown
        subst hvo
        clear hown
        have hz := HB.out.size
        by_cases hkl : k < b.length
        · go_wp2_with (at_builtin; go_must (refine wpList_app1 rfl (.tmp 57) (.tmp 60) 41 43 rfl Try.underlying41 _ 2 16 edit_info rfl (by decide) w2.heap.size _ _ _ rfl (by exact World.ownsRow.alloc HO.out _) ⟨wr.heap.size, 0, none⟩ 1 (edC (⟨-1, k⟩)) rfl rfl (by exact cells_new _ _ _) (edC_one _) (by omega) (by decide) (by simp; omega) ?_); intro g9 cap w9 hown1 hg1 hbel1 hgr1)
          have HB9 := Lib.hid (hbel1 _ _ (Nat.le_refl _) (by exact HB.out.alloc HB.out.size _))
          have HO9 := Lib.hid (OwnE.snoc hown1)
          clear hown1 hg1 hbel1 hgr1
          exact ⟨⟨k + 1, E ++ [⟨-1, k⟩], by omega, by go_num, by (rw [List.length_append, List.length_singleton]; omega), HO9.out, HB9.out⟩, by simp [intOf]; try omega⟩
        · obtain rfl : k = b.length := by omega
          clear hkl
          have HBL := HB
          have hEl : E.length ≤ 100 := by omega
          have HRE := Lib.hid (OwnE.rd edC_two HO.out)
          clear HO HB
          obtain ⟨w3, rfl⟩ : ∃ w3 : World, w3 = wr := ⟨_, rfl⟩
          have B3 := Lib.hid (B2.out.trans (Below.mono (HBL.out) z2))
          have z3 := B3.out.size
          have RS_3 := Lib.hid (RdE.below RS_2.out (HBL.out) (Nat.le_refl _))
          have Ra_3 := Lib.hid (RdE.below Ra_2.out (HBL.out) (Nat.le_refl _))
          have Rb_3 := Lib.hid (RdE.below Rb_2.out (HBL.out) (Nat.le_refl _))
          clear B2 RS_2 Ra_2 Rb_2
          have RE_3 := HRE
          clear HRE HBL
          go_wp2_with fail
          refine (CA.out _ _ _ (by exact Ra_3.out) (by exact Rb_3.out)).mono ?_
          rintro e w4 ⟨vz, rfl, hown, hb⟩
          have RZ_4 := Lib.hid (OwnE.rd edC_two hown)
          have HOZ := Lib.hid hown
          have HW34 := Lib.hid hb
          have Ra_3' := Ra_3
          have Rb_3' := Rb_3
          have RS_3' := RS_3
          have RE_3' := RE_3
          have B4 := Lib.hid (B3.out.trans (Below.mono (hb) z3))
          have z4 := B4.out.size
          have RS_4 := Lib.hid (RdE.below RS_3.out (hb) (Nat.le_refl _))
          have Ra_4 := Lib.hid (RdE.below Ra_3.out (hb) (Nat.le_refl _))
          have Rb_4 := Lib.hid (RdE.below Rb_3.out (hb) (Nat.le_refl _))
          have RE_4 := Lib.hid (RdE.below RE_3.out (hb) (Nat.le_refl _))
          clear B3 RS_3 Ra_3 Rb_3 RE_3
          clear hb hown
          by_cases hS : 0 < S.length
          · obtain ⟨gz, cZ, hvz, hgz⟩ := own_some HOZ.out hS
            subst hvz
            obtain ⟨j, hj⟩ : ∃ j : Nat, at0 % (S.length : Int) = (j : Int) := ⟨(at0 % (S.length : Int)).toNat, by have := Int.emod_nonneg at0 (show (S.length : Int) ≠ 0 by omega); omega⟩
            have hjl : j < S.length := by have := Int.emod_lt_of_pos at0 (show 0 < (S.length : Int) by omega); omega
            have PI := fun w => place_any at0 (S.length : Int) w h3 (by omega) (by omega)
            rw [hj] at PI
            have HPI := Lib.hid PI
            clear PI hj
            have zf := HOZ.out.frozenAt (j * 2)
            have zc : ∃ u, w4.cell? ⟨gz, j * 2, none⟩ = some u := by
              obtain ⟨b, o, hA, _, q1, _⟩ := RdEd.at_ RZ_4.out j hjl
              injection hA with hA
              injection hA with e1 e2 _
              subst e1 e2
              rw [Nat.zero_add] at q1
              exact ⟨_, q1⟩
            obtain ⟨u0, zc⟩ := zc
            have hlz : gz < w4.heap.size := (HOZ.out.lt gz rfl).2
            have hjl' : (j : Int) < (S.length : Int) := by omega
            go_upto_region 18 with (go_at_call 14; refine (HPI.out _).mono ?_; rintro e w' ⟨rfl, rfl⟩)
            have hbs : Below w3.heap.size w4 (w4.setCell ⟨gz, j * 2, none⟩ (.int .i64 xx)) := (Below.refl w3.heap.size w4).setCell (p := ⟨gz, j * 2, none⟩) hgz _
            have RZ' := Lib.hid (RdEd.setA RZ_4.out j hjl xx)
            have hkeep : ∀ k, k < w3.heap.size → (w4.setCell ⟨gz, j * 2, none⟩ (.int .i64 xx)).heap[k]? = w4.heap[k]? := fun k hk => Below.heap_setCell _ _ _ _ (by show k ≠ gz; omega)
            clear zf zc
            have Ra_9 := Lib.hid (RdE.keep Ra_3'.out (w' := w4.setCell ⟨gz, j * 2, none⟩ (.int .i64 xx)) (by simpa [World.setCell] using HW34.out.size) (fun k hk => (hkeep k hk).trans (HW34.out.block k hk)))
            have Rb_9 := Lib.hid (RdE.keep Rb_3'.out (w' := w4.setCell ⟨gz, j * 2, none⟩ (.int .i64 xx)) (by simpa [World.setCell] using HW34.out.size) (fun k hk => (hkeep k hk).trans (HW34.out.block k hk)))
            have RS_9 := Lib.hid (RdE.keep RS_3'.out (w' := w4.setCell ⟨gz, j * 2, none⟩ (.int .i64 xx)) (by simpa [World.setCell] using HW34.out.size) (fun k hk => (hkeep k hk).trans (HW34.out.block k hk)))
            have RE_9 := Lib.hid (RdE.keep RE_3'.out (w' := w4.setCell ⟨gz, j * 2, none⟩ (.int .i64 xx)) (by simpa [World.setCell] using HW34.out.size) (fun k hk => (hkeep k hk).trans (HW34.out.block k hk)))
            have B9 := Lib.hid (B4.out.setCell (p := ⟨gz, j * 2, none⟩) (show w.heap.size ≤ gz by omega) (.int .i64 xx))
            have hSA := setA_length S j xx
            have hSA' := Lib.hid hSA
            generalize setA S j xx = S' at RZ' hSA hSA'
            have hS2 : S'.length ≤ 1000 := by omega
            clear hSA hkeep hbs
            generalize w4.setCell ⟨gz, j * 2, none⟩ (.int .i64 xx) = w5 at Ra_9 Rb_9 RS_9 RE_9 RZ' B9
            have RZ_9 := RZ'
            have z9 := B9.out.size
            have ix0 : ∀ W : World, (Instr.index 45 (.agg #[.slice A2 sc.length c2, .slice Ao E.length co, .slice (some ⟨gz, 0, none⟩) S.length cZ]) (.int .i64 0)).run Try.prog W = .ok (.slice A2 sc.length c2) W := fun W => by kernel_rfl
            have ix1 : ∀ W : World, (Instr.index 45 (.agg #[.slice A2 sc.length c2, .slice Ao E.length co, .slice (some ⟨gz, 0, none⟩) S.length cZ]) (.int .i64 1)).run Try.prog W = .ok (.slice Ao E.length co) W := fun W => by kernel_rfl
            have ix2 : ∀ W : World, (Instr.index 45 (.agg #[.slice A2 sc.length c2, .slice Ao E.length co, .slice (some ⟨gz, 0, none⟩) S.length cZ]) (.int .i64 2)).run Try.prog W = .ok (.slice (some ⟨gz, 0, none⟩) S.length cZ) W := fun W => by kernel_rfl
            go_wp2_with fail
            go_loopw [81] (fun iv wy => ∃ k : Nat, k ≤ 3 ∧ iv = .int .i64 k ∧ Hid (Below w5.heap.size w5 wy)) (fun iv _ => 3 - (intOf iv).toNat)
            case atStart => exact ⟨0, by omega, rfl, Below.refl _ _⟩
            case round =>
              obtain ⟨k, hk, rfl, HB⟩ := hrel
              have hz := HB.out.size
              have RA := Lib.hid (RdE.below Ra_9.out HB.out (Nat.le_refl _))
              have RB := Lib.hid (RdE.below Rb_9.out HB.out (Nat.le_refl _))
              have RS := Lib.hid (RdE.below RS_9.out HB.out (Nat.le_refl _))
              have RE := Lib.hid (RdE.below RE_9.out HB.out (Nat.le_refl _))
              have RZ := Lib.hid (RdE.below RZ_9.out HB.out (Nat.le_refl _))
              have HBa := Lib.hid (B9.out.trans (HB.out.mono z9))
              rcases (show k = 0 ∨ k = 1 ∨ k = 2 ∨ k = 3 by omega) with rfl | rfl | rfl | rfl
              · go_wp2_with fail
                refine (CP.out sc (by omega) _ _ _ _ (by exact RA.out) (by exact RB.out) (by exact RS.out)).mono ?_
                rintro e w5 ⟨rfl, hb5⟩
                have RA5 := Lib.hid (RdE.below RA.out hb5 (Nat.le_refl _))
                have RB5 := Lib.hid (RdE.below RB.out hb5 (Nat.le_refl _))
                have RX5 := Lib.hid (RdE.below RS.out hb5 (Nat.le_refl _))
                have HB5 := Lib.hid (HB.out.trans (hb5.mono hz))
                have hz5 := HB5.out.size
                clear hb5
                go_wp2_with fail
                refine (CR.out sc (by omega) _ _ _ _ (by exact RA5.out) (by exact RB5.out) (by exact RX5.out)).mono ?_
                rintro e w6 ⟨rfl, hb6⟩
                have HB6 := Lib.hid (HB5.out.trans (hb6.mono hz5))
                clear hb6
                generalize priceO a b sc = pr
                go_wp2_with fail
                exact ⟨⟨0 + 1, by omega, by go_num, HB6.out⟩, by simp [intOf]; try omega⟩
              · go_wp2_with fail
                refine (CP.out E (by omega) _ _ _ _ (by exact RA.out) (by exact RB.out) (by exact RE.out)).mono ?_
                rintro e w5 ⟨rfl, hb5⟩
                have RA5 := Lib.hid (RdE.below RA.out hb5 (Nat.le_refl _))
                have RB5 := Lib.hid (RdE.below RB.out hb5 (Nat.le_refl _))
                have RX5 := Lib.hid (RdE.below RE.out hb5 (Nat.le_refl _))
                have HB5 := Lib.hid (HB.out.trans (hb5.mono hz))
                have hz5 := HB5.out.size
                clear hb5
                go_wp2_with fail
                refine (CR.out E (by omega) _ _ _ _ (by exact RA5.out) (by exact RB5.out) (by exact RX5.out)).mono ?_
                rintro e w6 ⟨rfl, hb6⟩
                have HB6 := Lib.hid (HB5.out.trans (hb6.mono hz5))
                clear hb6
                generalize priceO a b E = pr
                go_wp2_with fail
                exact ⟨⟨1 + 1, by omega, by go_num, HB6.out⟩, by simp [intOf]; try omega⟩
              · go_wp2_with fail
                refine (CP.out S' (by omega) _ _ _ _ (by exact RA.out) (by exact RB.out) (by exact RZ.out)).mono ?_
                rintro e w5 ⟨rfl, hb5⟩
                have RA5 := Lib.hid (RdE.below RA.out hb5 (Nat.le_refl _))
                have RB5 := Lib.hid (RdE.below RB.out hb5 (Nat.le_refl _))
                have RX5 := Lib.hid (RdE.below RZ.out hb5 (Nat.le_refl _))
                have HB5 := Lib.hid (HB.out.trans (hb5.mono hz))
                have hz5 := HB5.out.size
                clear hb5
                go_wp2_with fail
                refine (CR.out S' (by omega) _ _ _ _ (by exact RA5.out) (by exact RB5.out) (by exact RX5.out)).mono ?_
                rintro e w6 ⟨rfl, hb6⟩
                have HB6 := Lib.hid (HB5.out.trans (hb6.mono hz5))
                clear hb6
                generalize priceO a b S' = pr
                go_wp2_with fail
                exact ⟨⟨2 + 1, by omega, by go_num, HB6.out⟩, by simp [intOf]; try omega⟩
              · go_wp2_with (go_at_call 12; refine (known12_any _).mono ?_; rintro e w' ⟨rfl, hb'⟩)
                go_ret
                exact ⟨rfl, HBa.out.trans (hb'.mono HBa.out.size)⟩
          · obtain ⟨AZ, cZ, hvz⟩ := own_shape HOZ.out
            subst hvz
            have hS2 : S.length ≤ 1000 := by omega
            have ix0 : ∀ W : World, (Instr.index 45 (.agg #[.slice A2 sc.length c2, .slice Ao E.length co, .slice AZ S.length cZ]) (.int .i64 0)).run Try.prog W = .ok (.slice A2 sc.length c2) W := fun W => by kernel_rfl
            have ix1 : ∀ W : World, (Instr.index 45 (.agg #[.slice A2 sc.length c2, .slice Ao E.length co, .slice AZ S.length cZ]) (.int .i64 1)).run Try.prog W = .ok (.slice Ao E.length co) W := fun W => by kernel_rfl
            have ix2 : ∀ W : World, (Instr.index 45 (.agg #[.slice A2 sc.length c2, .slice Ao E.length co, .slice AZ S.length cZ]) (.int .i64 2)).run Try.prog W = .ok (.slice AZ S.length cZ) W := fun W => by kernel_rfl
            go_wp2_with fail
            go_loopw [81] (fun iv wy => ∃ k : Nat, k ≤ 3 ∧ iv = .int .i64 k ∧ Hid (Below w4.heap.size w4 wy)) (fun iv _ => 3 - (intOf iv).toNat)
            case atStart => exact ⟨0, by omega, rfl, Below.refl _ _⟩
            case round =>
              obtain ⟨k, hk, rfl, HB⟩ := hrel
              have hz := HB.out.size
              have RA := Lib.hid (RdE.below Ra_4.out HB.out (Nat.le_refl _))
              have RB := Lib.hid (RdE.below Rb_4.out HB.out (Nat.le_refl _))
              have RS := Lib.hid (RdE.below RS_4.out HB.out (Nat.le_refl _))
              have RE := Lib.hid (RdE.below RE_4.out HB.out (Nat.le_refl _))
              have RZ := Lib.hid (RdE.below RZ_4.out HB.out (Nat.le_refl _))
              have HBa := Lib.hid (B4.out.trans (HB.out.mono z4))
              rcases (show k = 0 ∨ k = 1 ∨ k = 2 ∨ k = 3 by omega) with rfl | rfl | rfl | rfl
              · go_wp2_with fail
                refine (CP.out sc (by omega) _ _ _ _ (by exact RA.out) (by exact RB.out) (by exact RS.out)).mono ?_
                rintro e w5 ⟨rfl, hb5⟩
                have RA5 := Lib.hid (RdE.below RA.out hb5 (Nat.le_refl _))
                have RB5 := Lib.hid (RdE.below RB.out hb5 (Nat.le_refl _))
                have RX5 := Lib.hid (RdE.below RS.out hb5 (Nat.le_refl _))
                have HB5 := Lib.hid (HB.out.trans (hb5.mono hz))
                have hz5 := HB5.out.size
                clear hb5
                go_wp2_with fail
                refine (CR.out sc (by omega) _ _ _ _ (by exact RA5.out) (by exact RB5.out) (by exact RX5.out)).mono ?_
                rintro e w6 ⟨rfl, hb6⟩
                have HB6 := Lib.hid (HB5.out.trans (hb6.mono hz5))
                clear hb6
                generalize priceO a b sc = pr
                go_wp2_with fail
                exact ⟨⟨0 + 1, by omega, by go_num, HB6.out⟩, by simp [intOf]; try omega⟩
              · go_wp2_with fail
                refine (CP.out E (by omega) _ _ _ _ (by exact RA.out) (by exact RB.out) (by exact RE.out)).mono ?_
                rintro e w5 ⟨rfl, hb5⟩
                have RA5 := Lib.hid (RdE.below RA.out hb5 (Nat.le_refl _))
                have RB5 := Lib.hid (RdE.below RB.out hb5 (Nat.le_refl _))
                have RX5 := Lib.hid (RdE.below RE.out hb5 (Nat.le_refl _))
                have HB5 := Lib.hid (HB.out.trans (hb5.mono hz))
                have hz5 := HB5.out.size
                clear hb5
                go_wp2_with fail
                refine (CR.out E (by omega) _ _ _ _ (by exact RA5.out) (by exact RB5.out) (by exact RX5.out)).mono ?_
                rintro e w6 ⟨rfl, hb6⟩
                have HB6 := Lib.hid (HB5.out.trans (hb6.mono hz5))
                clear hb6
                generalize priceO a b E = pr
                go_wp2_with fail
                exact ⟨⟨1 + 1, by omega, by go_num, HB6.out⟩, by simp [intOf]; try omega⟩
              · go_wp2_with fail
                refine (CP.out S (by omega) _ _ _ _ (by exact RA.out) (by exact RB.out) (by exact RZ.out)).mono ?_
                rintro e w5 ⟨rfl, hb5⟩
                have RA5 := Lib.hid (RdE.below RA.out hb5 (Nat.le_refl _))
                have RB5 := Lib.hid (RdE.below RB.out hb5 (Nat.le_refl _))
                have RX5 := Lib.hid (RdE.below RZ.out hb5 (Nat.le_refl _))
                have HB5 := Lib.hid (HB.out.trans (hb5.mono hz))
                have hz5 := HB5.out.size
                clear hb5
                go_wp2_with fail
                refine (CR.out S (by omega) _ _ _ _ (by exact RA5.out) (by exact RB5.out) (by exact RX5.out)).mono ?_
                rintro e w6 ⟨rfl, hb6⟩
                have HB6 := Lib.hid (HB5.out.trans (hb6.mono hz5))
                clear hb6
                generalize priceO a b S = pr
                go_wp2_with fail
                exact ⟨⟨2 + 1, by omega, by go_num, HB6.out⟩, by simp [intOf]; try omega⟩
              · go_wp2_with (go_at_call 12; refine (known12_any _).mono ?_; rintro e w' ⟨rfl, hb'⟩)
                go_ret
                exact ⟨rfl, HBa.out.trans (hb'.mono HBa.out.size)⟩

end Go.Proofs.Yteccphcophjhpaa
