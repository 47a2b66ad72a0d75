
/-
  The least price of all scripts: the reference's walk.
-/
import Derived.Test.YteccphcophjhpaaMathLeast
import Derived.Test.YteccphcophjhpaaAppK
import Derived.Test.YteccphcophjhpaaPriceR
namespace Go.Proofs.Yteccphcophjhpaa
open Go.RowKit

theorem ed_elem : Try.prog.underlying 41 = some (.slice (Try.prog.elem 41)) := by kernel_rfl
theorem ed_sizeOf (W : World) : (sizeOf (Try.prog.elem 41)).run Try.prog W = .ok 2 W := by kernel_rfl
/-- s[:len(s):len(s)]: a slice without room that reads as it did. -/
theorem ed_full {w : World} {A : Option Addr} {n c : Nat} {l : List Ed} (h : RdEd w (.slice A n c) l) :
    Hid (∀ W : World, (Instr.slice 41 (.slice A l.length c) none (some (.int .i64 (l.length : Int))) (some (.int .i64 (l.length : Int)))).run Try.prog W = .ok (.slice A l.length l.length) W) := by
  obtain ⟨hn, rfl, hc⟩ := rd_addr h
  show ∀ W : World, _
  intro W
  rw [run_slice_hm _ _ _ _ _ ed_elem .i64 .i64 (l.length : Int) (l.length : Int) (by omega) (by omega) (by omega), ed_sizeOf]
  have e : (if l.length = 0 then A else A.map (·.add (0 * 2))) = A := by
    split
    · rfl
    · rcases A with _ | ⟨b, o, sp⟩ <;> simp [Addr.add]
  simp only [Result.andThen, sliced, Int.toNat_natCast, Nat.sub_zero, e]
theorem rd_full {w : World} {A : Option Addr} {n c : Nat} {l : List Ed} (h : RdEd w (.slice A n c) l) : RdEd w (.slice A l.length l.length) l := by
  obtain ⟨A', c', hv, hc, hn, hx⟩ := h
  injection hv with h1 h2 h3
  subst h1 h2 h3
  exact ⟨A, l.length, rfl, Nat.le_refl _, fun e => by have := hn e; omega, hx⟩

set_option maxRecDepth 100000 in
set_option maxHeartbeats 16000000 in
theorem least_any (a b : List Tk) (va vb : Value) (hla : a.length ≤ 1000) (hlb : b.length ≤ 1000) (hia : ∀ x ∈ a, TkD x) (hib : ∀ x ∈ b, TkD x) :
    ∀ (N i k : Nat) (s : List Ed) (best : Int) (vs : Value) (w : World), a.length + b.length ≤ N + i + k → i ≤ a.length → k ≤ b.length → s.length ≤ i + k → RdT w va a → RdT w vb b → RdEd w vs s →
    Calls Try.prog 40 #[va, vb, .int .i64 i, .int .i64 k, vs, .int .i64 best] w fun e w' => e = .returned (.int .i64 (leastF a b N i k s best)) ∧ Below w.heap.size w w' := by
  intro N
  induction N with
  | zero =>
    intro i k s best vs w hN hi hk hsl ha hb hs
    obtain ⟨A, c, rfl, _, _⟩ := ha.shape
    obtain ⟨A2, c2, rfl, _, _⟩ := hb.shape
    obtain ⟨A3, c3, rfl, _, _⟩ := hs.shape
    have HA := Lib.hid ha
    have HB := Lib.hid hb
    have HS := Lib.hid hs
    have HIA := Lib.hid hia
    have HIB := Lib.hid hib
    clear ha hb hs
    have ei : ((i : Int) == (a.length : Int)) = true := beq_iff_eq.2 (by omega)
    have ek : ((k : Int) == (b.length : Int)) = true := beq_iff_eq.2 (by omega)
    have CP := Lib.hid (fun (w : World) (h : RdT w (.slice A a.length c) a) (h' : RdT w (.slice A2 b.length c2) b) (hs : RdEd w (.slice A3 s.length c3) s) => rprice_any a b s _ _ _ w h h' hs (by omega) (by omega) (by omega) HIA.out HIB.out)
    obtain ⟨pr, hpr⟩ : ∃ pr, priceO a b s = pr := ⟨_, rfl⟩
    have HLF : Hid (leastF a b 0 i k s best = updO best pr) := by show leastF a b 0 i k s best = _; rw [leastF, hpr]
    rw [hpr] at CP
    clear hpr
    cases pr with
    | none =>
      go_enter Try.func40, Try.ntmps40
      go_wp2_with fail
      refine (CP.out _ (by exact HA.out) (by exact HB.out) (by exact HS.out)).mono ?_
      rintro e w1 ⟨rfl, hb1⟩
      have HB1 := Lib.hid hb1
      clear hb1
      go_wp2_with fail
      go_ret
      exact ⟨ret_int (by rw [HLF.out]; rfl), HB1.out⟩
    | some pv =>
      by_cases hb0 : best < 0
      · have HU : Hid (updO best (some pv) = pv) := by show (if best < 0 ∨ pv < best then pv else best) = pv; rw [if_pos (.inl hb0)]
        go_enter Try.func40, Try.ntmps40
        go_wp2_with fail
        refine (CP.out _ (by exact HA.out) (by exact HB.out) (by exact HS.out)).mono ?_
        rintro e w1 ⟨rfl, hb1⟩
        have HB1 := Lib.hid hb1
        clear hb1
        go_wp2_with fail
        go_ret
        exact ⟨ret_int (by rw [HLF.out, HU.out]), HB1.out⟩
      · by_cases hp : pv < best
        · have HU : Hid (updO best (some pv) = pv) := by show (if best < 0 ∨ pv < best then pv else best) = pv; rw [if_pos (.inr hp)]
          go_enter Try.func40, Try.ntmps40
          go_wp2_with fail
          refine (CP.out _ (by exact HA.out) (by exact HB.out) (by exact HS.out)).mono ?_
          rintro e w1 ⟨rfl, hb1⟩
          have HB1 := Lib.hid hb1
          clear hb1
          go_wp2_with fail
          go_ret
          exact ⟨ret_int (by rw [HLF.out, HU.out]), HB1.out⟩
        · have HU : Hid (updO best (some pv) = best) := by show (if best < 0 ∨ pv < best then pv else best) = best; rw [if_neg (by omega)]
          go_enter Try.func40, Try.ntmps40
          go_wp2_with fail
          refine (CP.out _ (by exact HA.out) (by exact HB.out) (by exact HS.out)).mono ?_
          rintro e w1 ⟨rfl, hb1⟩
          have HB1 := Lib.hid hb1
          clear hb1
          go_wp2_with fail
          go_ret
          exact ⟨ret_int (by rw [HLF.out, HU.out]), HB1.out⟩
  | succ N ih =>
    intro i k s best vs w hN hi hk hsl ha hb hs
    obtain ⟨A, c, rfl, _, _⟩ := ha.shape
    obtain ⟨A2, c2, rfl, _, _⟩ := hb.shape
    obtain ⟨A3, c3, rfl, _, _⟩ := hs.shape
    have HA := Lib.hid ha
    have HB := Lib.hid hb
    have HS := Lib.hid hs
    have HIA := Lib.hid hia
    have HIB := Lib.hid hib
    clear ha hb hs
    by_cases hd : i = a.length ∧ k = b.length
    · have ei : ((i : Int) == (a.length : Int)) = true := beq_iff_eq.2 (by omega)
      have ek : ((k : Int) == (b.length : Int)) = true := beq_iff_eq.2 (by omega)
      have CP := Lib.hid (fun (w : World) (h : RdT w (.slice A a.length c) a) (h' : RdT w (.slice A2 b.length c2) b) (hs : RdEd w (.slice A3 s.length c3) s) => rprice_any a b s _ _ _ w h h' hs (by omega) (by omega) (by omega) HIA.out HIB.out)
      obtain ⟨pr, hpr⟩ : ∃ pr, priceO a b s = pr := ⟨_, rfl⟩
      have HLF : Hid (leastF a b (N + 1) i k s best = updO best pr) := by show leastF a b (N + 1) i k s best = _; rw [leastF, if_pos hd, hpr]
      rw [hpr] at CP
      clear hpr
      clear hd
      cases pr with
      | none =>
        go_enter Try.func40, Try.ntmps40
        go_wp2_with fail
        refine (CP.out _ (by exact HA.out) (by exact HB.out) (by exact HS.out)).mono ?_
        rintro e w1 ⟨rfl, hb1⟩
        have HB1 := Lib.hid hb1
        clear hb1
        go_wp2_with fail
        go_ret
        exact ⟨ret_int (by rw [HLF.out]; rfl), HB1.out⟩
      | some pv =>
        by_cases hb0 : best < 0
        · have HU : Hid (updO best (some pv) = pv) := by show (if best < 0 ∨ pv < best then pv else best) = pv; rw [if_pos (.inl hb0)]
          go_enter Try.func40, Try.ntmps40
          go_wp2_with fail
          refine (CP.out _ (by exact HA.out) (by exact HB.out) (by exact HS.out)).mono ?_
          rintro e w1 ⟨rfl, hb1⟩
          have HB1 := Lib.hid hb1
          clear hb1
          go_wp2_with fail
          go_ret
          exact ⟨ret_int (by rw [HLF.out, HU.out]), HB1.out⟩
        · by_cases hp : pv < best
          · have HU : Hid (updO best (some pv) = pv) := by show (if best < 0 ∨ pv < best then pv else best) = pv; rw [if_pos (.inr hp)]
            go_enter Try.func40, Try.ntmps40
            go_wp2_with fail
            refine (CP.out _ (by exact HA.out) (by exact HB.out) (by exact HS.out)).mono ?_
            rintro e w1 ⟨rfl, hb1⟩
            have HB1 := Lib.hid hb1
            clear hb1
            go_wp2_with fail
            go_ret
            exact ⟨ret_int (by rw [HLF.out, HU.out]), HB1.out⟩
          · have HU : Hid (updO best (some pv) = best) := by show (if best < 0 ∨ pv < best then pv else best) = best; rw [if_neg (by omega)]
            go_enter Try.func40, Try.ntmps40
            go_wp2_with fail
            refine (CP.out _ (by exact HA.out) (by exact HB.out) (by exact HS.out)).mono ?_
            rintro e w1 ⟨rfl, hb1⟩
            have HB1 := Lib.hid hb1
            clear hb1
            go_wp2_with fail
            go_ret
            exact ⟨ret_int (by rw [HLF.out, HU.out]), HB1.out⟩
    · have hNd : ¬ (i = a.length ∧ k = b.length) := hd
      clear hd
      have e3 : IntKind.i64.wrap ((i : Int) + 1) = (i : Int) + 1 := by rw [IntKind.wrap_i64]; omega
      have f3 : IntKind.i64.wrap ((k : Int) + 1) = (k : Int) + 1 := by rw [IntKind.wrap_i64]; omega
      have ci : (i : Int) + 1 = ((i + 1 : Nat) : Int) := by omega
      have ck : (k : Int) + 1 = ((k + 1 : Nat) : Int) := by omega
      rw [ci] at e3
      rw [ck] at f3
      clear ci ck

      by_cases hia' : i < a.length
      · have i1 : (i : Int) < (a.length : Int) := by omega
        have ei : ((i : Int) == (a.length : Int)) = false := beq_eq_false_iff_ne.2 (by omega)
        by_cases hkb : k < b.length
        · have k1 : (k : Int) < (b.length : Int) := by omega
          have HLF : Hid (leastF a b (N + 1) i k s best = leastF a b N i (k + 1) (s ++ [(⟨-1, k⟩ : Ed)]) (leastF a b N (i + 1) k (s ++ [(⟨i, -1⟩ : Ed)]) (leastF a b N (i + 1) (k + 1) (s ++ [(⟨i, k⟩ : Ed)]) best))) := by
            show leastF a b (N + 1) i k s best = _
            rw [leastF, if_neg hNd]
            simp only [if_pos (And.intro hia' hkb), if_pos hia', if_pos hkb]
          clear hNd
          go_enter Try.func40, Try.ntmps40
          go_upto_region 7 with (at_builtin; (refine wpList_appE rfl (.const (.slice none 0 0)) (.tmp 45) 41 43 rfl Try.underlying41 _ edC 2 16 edit_info rfl (by decide) edC_two edC_one w.heap.size _ ([] : List Ed) rfl OwnE.nil _ s rfl (by exact HS.out) (by simp; omega) (by decide) (Nat.le_refl _) ?_; intro v1 w1 hown1 hbel1 hgr1; rw [List.nil_append] at hown1; have HO1 := Lib.hid hown1; have HB1 := Lib.hid (hbel1 w.heap.size w (Nat.le_refl _) (Below.refl _ _)); clear hown1 hbel1 hgr1))
          obtain ⟨Ah, ch, hvh⟩ := own_shape HO1.out
          subst hvh
          have hz1 := HB1.out.size
          have RH1 := Lib.hid (OwnE.rd edC_two HO1.out)
          have RA1 := Lib.hid (RdE.below HA.out HB1.out (Nat.le_refl _))
          have RB1 := Lib.hid (RdE.below HB.out HB1.out (Nat.le_refl _))
          have HFU := ed_full RH1.out
          have HFU' := HFU.out
          clear HFU
          go_wp2_with (at_builtin; (refine wpList_appK rfl (.tmp 63) (.tmp 67) 41 43 rfl Try.underlying41 _ edC 2 16 edit_info rfl (by decide) edC_two edC_one w.heap.size _ s rfl (by exact World.ownsRow.alloc HO1.out _) (⟨i, k⟩ : Ed) ⟨w1.heap.size, 0, none⟩ 1 rfl (by exact cells_new _ _ _) (by omega) (by decide) ?_; intro v2 w2 hs2 hh2 hbel2; have HB2 := Lib.hid (hbel2 w.heap.size w (Nat.le_refl _) (by simp; omega) (HB1.out.alloc hz1 _)); have HX2 := Lib.hid (hbel2 w.heap.size w (Nat.le_refl _) (by simp; omega) (HB1.out.alloc hz1 _)); have RS2 := Lib.hid hs2; have RH2 := Lib.hid hh2; clear hs2 hh2 hbel2))
          have hz2 := HB2.out.size
          have RA2 := Lib.hid (RdE.below HA.out HB2.out (Nat.le_refl _))
          have RB2 := Lib.hid (RdE.below HB.out HB2.out (Nat.le_refl _))
          refine (ih (i + 1) (k + 1) (s ++ [(⟨i, k⟩ : Ed)]) best _ _ (by omega) (by omega) (by omega) (by rw [List.length_append, List.length_singleton]; omega) (by exact RA2.out) (by exact RB2.out) (by exact RS2.out)).mono ?_
          rintro e w3 ⟨rfl, hb3⟩
          have HB3 := Lib.hid (HB2.out.trans ((hb3).mono HB2.out.size))
          have hz3 := HB3.out.size
          have RA3 := Lib.hid (RdE.below RA2.out (hb3) (Nat.le_refl _))
          have RB3 := Lib.hid (RdE.below RB2.out (hb3) (Nat.le_refl _))
          have RH3 := Lib.hid (RdE.below RH2.out (hb3) (Nat.le_refl _))
          generalize leastF a b N (i + 1) (k + 1) (s ++ [(⟨i, k⟩ : Ed)]) best = b1 at HLF
          clear hb3 RA1 RB1 RH1 HO1 HB1 HB2 HX2 RA2 RB2 RH2 RS2
          go_wp2_with (at_builtin; (refine wpList_appF rfl (.tmp 85) (.tmp 88) 41 43 rfl Try.underlying41 _ edC 2 16 edit_info rfl (by decide) edC_two edC_one Ah s rfl (by exact RdE.alloc (rd_full RH3.out) _) (⟨i, -1⟩ : Ed) ⟨w3.heap.size, 0, none⟩ 1 rfl (by exact cells_new _ _ _) (by omega) (by decide) ?_; intro v4 w4 hs4 hbel4; have HX4 := Lib.hid (((Below.refl w3.heap.size w3).alloc (Nat.le_refl _) _).trans (hbel4.mono (by simp))); have RS4 := Lib.hid hs4; clear hs4 hbel4))
          have HB4 := Lib.hid (HB3.out.trans ((HX4.out).mono HB3.out.size))
          have hz4 := HB4.out.size
          have RA4 := Lib.hid (RdE.below RA3.out (HX4.out) (Nat.le_refl _))
          have RB4 := Lib.hid (RdE.below RB3.out (HX4.out) (Nat.le_refl _))
          have RH4 := Lib.hid (RdE.below RH3.out (HX4.out) (Nat.le_refl _))
          refine (ih (i + 1) k (s ++ [(⟨i, -1⟩ : Ed)]) b1 _ _ (by omega) (by omega) (by omega) (by rw [List.length_append, List.length_singleton]; omega) (by exact RA4.out) (by exact RB4.out) (by exact RS4.out)).mono ?_
          rintro e w5 ⟨rfl, hb5⟩
          have HB5 := Lib.hid (HB4.out.trans ((hb5).mono HB4.out.size))
          have hz5 := HB5.out.size
          have RA5 := Lib.hid (RdE.below RA4.out (hb5) (Nat.le_refl _))
          have RB5 := Lib.hid (RdE.below RB4.out (hb5) (Nat.le_refl _))
          have RH5 := Lib.hid (RdE.below RH4.out (hb5) (Nat.le_refl _))
          generalize leastF a b N (i + 1) k (s ++ [(⟨i, -1⟩ : Ed)]) b1 = b2 at HLF
          clear hb5 HX4 RS4 HB3 RA3 RB3 RH3 HB4 RA4 RB4 RH4
          go_wp2_with (at_builtin; (refine wpList_appF rfl (.tmp 106) (.tmp 109) 41 43 rfl Try.underlying41 _ edC 2 16 edit_info rfl (by decide) edC_two edC_one Ah s rfl (by exact RdE.alloc (rd_full RH5.out) _) (⟨-1, k⟩ : Ed) ⟨w5.heap.size, 0, none⟩ 1 rfl (by exact cells_new _ _ _) (by omega) (by decide) ?_; intro v6 w6 hs6 hbel6; have HX6 := Lib.hid (((Below.refl w5.heap.size w5).alloc (Nat.le_refl _) _).trans (hbel6.mono (by simp))); have RS6 := Lib.hid hs6; clear hs6 hbel6))
          have HB6 := Lib.hid (HB5.out.trans ((HX6.out).mono HB5.out.size))
          have hz6 := HB6.out.size
          have RA6 := Lib.hid (RdE.below RA5.out (HX6.out) (Nat.le_refl _))
          have RB6 := Lib.hid (RdE.below RB5.out (HX6.out) (Nat.le_refl _))
          have RH6 := Lib.hid (RdE.below RH5.out (HX6.out) (Nat.le_refl _))
          refine (ih i (k + 1) (s ++ [(⟨-1, k⟩ : Ed)]) b2 _ _ (by omega) (by omega) (by omega) (by rw [List.length_append, List.length_singleton]; omega) (by exact RA6.out) (by exact RB6.out) (by exact RS6.out)).mono ?_
          rintro e w7 ⟨rfl, hb7⟩
          have HB7 := Lib.hid (HB6.out.trans ((hb7).mono HB6.out.size))
          have hz7 := HB7.out.size
          have RA7 := Lib.hid (RdE.below RA6.out (hb7) (Nat.le_refl _))
          have RB7 := Lib.hid (RdE.below RB6.out (hb7) (Nat.le_refl _))
          have RH7 := Lib.hid (RdE.below RH6.out (hb7) (Nat.le_refl _))
          generalize leastF a b N i (k + 1) (s ++ [(⟨-1, k⟩ : Ed)]) b2 = b3 at HLF
          clear hb7 HX6 RS6 HB5 RA5 RB5 RH5 HB6 RA6 RB6 RH6
          go_wp2_with fail
          go_ret
          exact ⟨ret_int HLF.out.symm, HB7.out⟩
        · have k1 : ¬ (k : Int) < (b.length : Int) := by omega
          have HLF : Hid (leastF a b (N + 1) i k s best = leastF a b N (i + 1) k (s ++ [(⟨i, -1⟩ : Ed)]) best) := by
            show leastF a b (N + 1) i k s best = _
            rw [leastF, if_neg hNd]
            simp only [if_neg (fun e : i < a.length ∧ k < b.length => hkb e.2), if_pos hia', if_neg hkb]
          clear hNd
          go_enter Try.func40, Try.ntmps40
          go_upto_region 7 with (at_builtin; (refine wpList_appE rfl (.const (.slice none 0 0)) (.tmp 45) 41 43 rfl Try.underlying41 _ edC 2 16 edit_info rfl (by decide) edC_two edC_one w.heap.size _ ([] : List Ed) rfl OwnE.nil _ s rfl (by exact HS.out) (by simp; omega) (by decide) (Nat.le_refl _) ?_; intro v1 w1 hown1 hbel1 hgr1; rw [List.nil_append] at hown1; have HO1 := Lib.hid hown1; have HB1 := Lib.hid (hbel1 w.heap.size w (Nat.le_refl _) (Below.refl _ _)); clear hown1 hbel1 hgr1))
          obtain ⟨Ah, ch, hvh⟩ := own_shape HO1.out
          subst hvh
          have hz1 := HB1.out.size
          have RH1 := Lib.hid (OwnE.rd edC_two HO1.out)
          have RA1 := Lib.hid (RdE.below HA.out HB1.out (Nat.le_refl _))
          have RB1 := Lib.hid (RdE.below HB.out HB1.out (Nat.le_refl _))
          have HFU := ed_full RH1.out
          have HFU' := HFU.out
          clear HFU
          go_wp2_with (at_builtin; (refine wpList_appF rfl (.tmp 85) (.tmp 88) 41 43 rfl Try.underlying41 _ edC 2 16 edit_info rfl (by decide) edC_two edC_one Ah s rfl (by exact RdE.alloc (rd_full RH1.out) _) (⟨i, -1⟩ : Ed) ⟨w1.heap.size, 0, none⟩ 1 rfl (by exact cells_new _ _ _) (by omega) (by decide) ?_; intro v2 w2 hs2 hbel2; have HX2 := Lib.hid (((Below.refl w1.heap.size w1).alloc (Nat.le_refl _) _).trans (hbel2.mono (by simp))); have RS2 := Lib.hid hs2; clear hs2 hbel2))
          have HB2 := Lib.hid (HB1.out.trans ((HX2.out).mono HB1.out.size))
          have hz2 := HB2.out.size
          have RA2 := Lib.hid (RdE.below RA1.out (HX2.out) (Nat.le_refl _))
          have RB2 := Lib.hid (RdE.below RB1.out (HX2.out) (Nat.le_refl _))
          have RH2 := Lib.hid (RdE.below RH1.out (HX2.out) (Nat.le_refl _))
          refine (ih (i + 1) k (s ++ [(⟨i, -1⟩ : Ed)]) best _ _ (by omega) (by omega) (by omega) (by rw [List.length_append, List.length_singleton]; omega) (by exact RA2.out) (by exact RB2.out) (by exact RS2.out)).mono ?_
          rintro e w3 ⟨rfl, hb3⟩
          have HB3 := Lib.hid (HB2.out.trans ((hb3).mono HB2.out.size))
          have hz3 := HB3.out.size
          have RA3 := Lib.hid (RdE.below RA2.out (hb3) (Nat.le_refl _))
          have RB3 := Lib.hid (RdE.below RB2.out (hb3) (Nat.le_refl _))
          have RH3 := Lib.hid (RdE.below RH2.out (hb3) (Nat.le_refl _))
          generalize leastF a b N (i + 1) k (s ++ [(⟨i, -1⟩ : Ed)]) best = b2 at HLF
          clear hb3 HX2 RS2 HB1 RA1 RB1 RH1 HB2 RA2 RB2 RH2
          go_wp2_with fail
          go_ret
          exact ⟨ret_int HLF.out.symm, HB3.out⟩
      · have i1 : ¬ (i : Int) < (a.length : Int) := by omega
        have ei : ((i : Int) == (a.length : Int)) = true := beq_iff_eq.2 (by omega)
        have hkb : k < b.length := by omega
        have k1 : (k : Int) < (b.length : Int) := by omega
        have ek : ((k : Int) == (b.length : Int)) = false := beq_eq_false_iff_ne.2 (by omega)
        have HLF : Hid (leastF a b (N + 1) i k s best = leastF a b N i (k + 1) (s ++ [(⟨-1, k⟩ : Ed)]) best) := by
          show leastF a b (N + 1) i k s best = _
          rw [leastF, if_neg hNd]
          simp only [if_neg (fun e : i < a.length ∧ k < b.length => hia' e.1), if_neg hia', if_pos hkb]
        clear hNd
        go_enter Try.func40, Try.ntmps40
        go_upto_region 7 with (at_builtin; (refine wpList_appE rfl (.const (.slice none 0 0)) (.tmp 45) 41 43 rfl Try.underlying41 _ edC 2 16 edit_info rfl (by decide) edC_two edC_one w.heap.size _ ([] : List Ed) rfl OwnE.nil _ s rfl (by exact HS.out) (by simp; omega) (by decide) (Nat.le_refl _) ?_; intro v1 w1 hown1 hbel1 hgr1; rw [List.nil_append] at hown1; have HO1 := Lib.hid hown1; have HB1 := Lib.hid (hbel1 w.heap.size w (Nat.le_refl _) (Below.refl _ _)); clear hown1 hbel1 hgr1))
        obtain ⟨Ah, ch, hvh⟩ := own_shape HO1.out
        subst hvh
        have hz1 := HB1.out.size
        have RH1 := Lib.hid (OwnE.rd edC_two HO1.out)
        have RA1 := Lib.hid (RdE.below HA.out HB1.out (Nat.le_refl _))
        have RB1 := Lib.hid (RdE.below HB.out HB1.out (Nat.le_refl _))
        have HFU := ed_full RH1.out
        have HFU' := HFU.out
        clear HFU
        go_wp2_with (at_builtin; (refine wpList_appF rfl (.tmp 106) (.tmp 109) 41 43 rfl Try.underlying41 _ edC 2 16 edit_info rfl (by decide) edC_two edC_one Ah s rfl (by exact RdE.alloc (rd_full RH1.out) _) (⟨-1, k⟩ : Ed) ⟨w1.heap.size, 0, none⟩ 1 rfl (by exact cells_new _ _ _) (by omega) (by decide) ?_; intro v2 w2 hs2 hbel2; have HX2 := Lib.hid (((Below.refl w1.heap.size w1).alloc (Nat.le_refl _) _).trans (hbel2.mono (by simp))); have RS2 := Lib.hid hs2; clear hs2 hbel2))
        have HB2 := Lib.hid (HB1.out.trans ((HX2.out).mono HB1.out.size))
        have hz2 := HB2.out.size
        have RA2 := Lib.hid (RdE.below RA1.out (HX2.out) (Nat.le_refl _))
        have RB2 := Lib.hid (RdE.below RB1.out (HX2.out) (Nat.le_refl _))
        have RH2 := Lib.hid (RdE.below RH1.out (HX2.out) (Nat.le_refl _))
        refine (ih i (k + 1) (s ++ [(⟨-1, k⟩ : Ed)]) best _ _ (by omega) (by omega) (by omega) (by rw [List.length_append, List.length_singleton]; omega) (by exact RA2.out) (by exact RB2.out) (by exact RS2.out)).mono ?_
        rintro e w3 ⟨rfl, hb3⟩
        have HB3 := Lib.hid (HB2.out.trans ((hb3).mono HB2.out.size))
        have hz3 := HB3.out.size
        have RA3 := Lib.hid (RdE.below RA2.out (hb3) (Nat.le_refl _))
        have RB3 := Lib.hid (RdE.below RB2.out (hb3) (Nat.le_refl _))
        have RH3 := Lib.hid (RdE.below RH2.out (hb3) (Nat.le_refl _))
        generalize leastF a b N i (k + 1) (s ++ [(⟨-1, k⟩ : Ed)]) best = b3 at HLF
        clear hb3 HX2 RS2 HB1 RA1 RB1 RH1 HB2 RA2 RB2 RH2
        go_wp2_with fail
        go_ret
        exact ⟨ret_int HLF.out.symm, HB3.out⟩

end Go.Proofs.Yteccphcophjhpaa
