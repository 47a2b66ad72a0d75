
/-
  The statement PatternMatches: the walk.
-/
import Derived.Test.YtanpiidhcijfaaaLaw5B
import Derived.Test.YtanpiidhcijfaaaRefN
import Derived.Test.YtanpiidhcijfaaaSame
namespace Go.Proofs.Ytanpiidhcijfaaa
open Go.RowKit

set_option maxRecDepth 100000 in
set_option maxHeartbeats 8000000 in
theorem walk_PatternMatches (A : Option Addr) (n c : Nat) (p : List At) (A2 : Option Addr) (n2 c2 : Nat) (l : List Int) (A3 : Option Addr) (n3 c3 : Nat) (m : List Int) (s : ByteArray) (w : World) (h0 : n = p.length ∧ p.length ≤ maxLen ∧ RdE atC 34 w (.slice A n c) p ∧ ∀ x ∈ p, -9223372036854775808 ≤ x.mn ∧ x.mn ≤ 9223372036854775807)
    (h1 : n2 = l.length ∧ l.length ≤ maxLen ∧ RdE intC 1 w (.slice A2 n2 c2) l ∧ ∀ x ∈ l, IntIn x) (h2 : n3 = m.length ∧ m.length ≤ maxLen ∧ RdE intC 1 w (.slice A3 n3 c3) m ∧ ∀ x ∈ m, IntIn x) (_hs : s.size ≤ maxLen) :
    Calls Try.prog 11 #[.slice A n c, .slice A2 n2 c2, .slice A3 n3 c3, .string s] w fun e w' => e = .returned (.bool true) ∧ Below w.heap.size w w' := by
  obtain ⟨hn, hpm, hp, _⟩ := h0
  obtain ⟨hn2, hlm, hr, hin⟩ := h1
  obtain ⟨hn3, hmm, hr3, hin3⟩ := h2
  subst hn hn2 hn3
  unfold maxLen at hpm hlm hmm
  have HK := Lib.hid known_any
  go_enter Try.func11, Try.ntmps11
  by_cases h8 : 8 < p.length
  · have h8i : (8 : Int) < (p.length : Int) := by omega
    go_wp2_with (go_at_call 12; refine (HK.out _).mono ?_; rintro e w1 ⟨rfl, hb1⟩)
    go_ret
    exact ⟨rfl, hb1⟩
  have h8i : ¬ (8 : Int) < (p.length : Int) := by omega
  by_cases h40 : 40 < s.size
  · have h40i : (40 : Int) < (s.size : Int) := by omega
    go_wp2_with (go_at_call 12; refine (HK.out _).mono ?_; rintro e w1 ⟨rfl, hb1⟩)
    go_ret
    exact ⟨rfl, hb1⟩
  have h40i : ¬ (40 : Int) < (s.size : Int) := by omega
  by_cases h60 : 60 < l.length
  · have h60i : (60 : Int) < (l.length : Int) := by omega
    go_wp2_with (go_at_call 12; refine (HK.out _).mono ?_; rintro e w1 ⟨rfl, hb1⟩)
    go_ret
    exact ⟨rfl, hb1⟩
  have h60i : ¬ (60 : Int) < (l.length : Int) := by omega
  have HM := Lib.hid (made_any A2 c2 l w hr hin)
  have HP := Lib.hid hp
  have HT0 := Lib.hid (fun W (h : Below w.heap.size w W) => text_any A3 c3 m W (hr3.below h (Nat.le_refl _)) hin3 hmm)
  clear hr hin hp hr3 hin3
  go_wp2_with (go_at_call 20; refine HM.out.mono ?_; rintro e w1 ⟨v1, q, rfl, hq, hown, hb1, _⟩; obtain ⟨A4, c4, hv⟩ := own_shape hown; subst hv)
  have HR1 := Lib.hid (OwnE.rd atC_len hown)
  have HB1 := Lib.hid hb1
  clear hown hb1 HM
  have HQ0 := Lib.hid (fun W (h : Below w1.heap.size w1 W) => HP.out.below (HB1.out.trans (h.mono HB1.out.size)) (Nat.le_refl _))
  have HQ1 := Lib.hid (fun W (h : Below w1.heap.size w1 W) => HR1.out.below h (Nat.le_refl _))
  have HT := Lib.hid (fun W (h : Below w1.heap.size w1 W) => HT0.out W (HB1.out.trans (h.mono HB1.out.size)))
  clear HP HR1 HT0
  have i0 : ∀ w, (Instr.index 51 (.agg #[.slice A p.length c, .slice A4 q.length c4]) (.int .i64 0)).run Try.prog w = .ok (.slice A p.length c) w := fun _ => by kernel_rfl
  have i1 : ∀ w, (Instr.index 51 (.agg #[.slice A p.length c, .slice A4 q.length c4]) (.int .i64 1)).run Try.prog w = .ok (.slice A4 q.length c4) w := fun _ => by kernel_rfl
  go_loopg [31] 2 (fun n kv wr => (kv = .int .i64 0 ∧ Hid (Below w1.heap.size w1 wr) ∧ 2 ≤ n) ∨ (kv = .int .i64 1 ∧ Hid (Below w1.heap.size w1 wr) ∧ 1 ≤ n) ∨ (kv = .int .i64 2 ∧ Hid (Below w1.heap.size w1 wr)))
  case atStart => exact .inl ⟨rfl, Below.refl _ _, by omega⟩
  case round =>
    rcases hrel with ⟨rfl, HB, hgk⟩ | ⟨rfl, HB, hgk⟩ | ⟨rfl, HB⟩
    ·
      go_upto_region 6 with fail
      go_upto_region 7 with (go_at_call 21; refine (HT.out _ HB.out).mono ?_; rintro e w2 ⟨t, ht, rfl, hb2⟩)
      have HB2 := Lib.hid (HB.out.trans (hb2.mono HB.out.size))
      have HR2 := Lib.hid (HQ0.out _ HB2.out)
      clear hb2 HB
      have j0 : ∀ w, (Instr.index 25 (.agg #[.string s, .string t]) (.int .i64 0)).run Try.prog w = .ok (.string s) w := fun _ => by kernel_rfl
      have j1 : ∀ w, (Instr.index 25 (.agg #[.string s, .string t]) (.int .i64 1)).run Try.prog w = .ok (.string t) w := fun _ => by kernel_rfl
      obtain ⟨wo, HWO⟩ : ∃ wo, Hid (wo = w2) := ⟨w2, rfl⟩
      go_loopg [38] 2 (fun n kv wr => (kv = .int .i64 0 ∧ Hid (Below w2.heap.size w2 wr) ∧ 2 ≤ n) ∨ (kv = .int .i64 1 ∧ Hid (Below w2.heap.size w2 wr) ∧ 1 ≤ n) ∨ (kv = .int .i64 2 ∧ Hid (Below w2.heap.size w2 wr)))
      case atStart => exact .inl ⟨rfl, Below.refl _ _, by omega⟩
      case round =>
        rcases hrel with ⟨rfl, HI, hgk2⟩ | ⟨rfl, HI, hgk2⟩ | ⟨rfl, HI⟩
        · go_upto_region 9 with fail
          have HM1 := Lib.hid (fun W (h : Below w2.heap.size w2 W) => match_any p s (.slice A p.length c) W (HR2.out.below h (Nat.le_refl _)) (by omega) (by omega))
          have HM2 := Lib.hid (fun W (h : Below w2.heap.size w2 W) => rmatch_any p s (.slice A p.length c) W (HR2.out.below h (Nat.le_refl _)) (by omega) (by omega))
          have HP1 := Lib.hid (fun W (h : Below w2.heap.size w2 W) => prefix_any p s (.slice A p.length c) W (HR2.out.below h (Nat.le_refl _)) (by omega) (by omega))
          have HP2 := Lib.hid (fun W (h : Below w2.heap.size w2 W) => rprefix_any p s (.slice A p.length c) W (HR2.out.below h (Nat.le_refl _)) (by omega) (by omega))
          have HS1 := Lib.hid (fun W (h : Below w2.heap.size w2 W) => suffix_any p s (.slice A p.length c) W (HR2.out.below h (Nat.le_refl _)) (by omega) (by omega))
          have HS2 := Lib.hid (fun W (h : Below w2.heap.size w2 W) => rsuffix_any p s (.slice A p.length c) W (HR2.out.below h (Nat.le_refl _)) (by omega) (by omega))
          have HL1 := Lib.hid (fun W (h : Below w2.heap.size w2 W) => longest_any p s (.slice A p.length c) W (HR2.out.below h (Nat.le_refl _)) (by omega) (by omega))
          have HL2 := Lib.hid (fun W (h : Below w2.heap.size w2 W) => rlongest_any p s (.slice A p.length c) W (HR2.out.below h (Nat.le_refl _)) (by omega) (by omega))
          generalize matchF p s = b1 at HM1 HM2
          generalize prefixF p s = b2 at HP1 HP2
          generalize suffixF p s = b3 at HS1 HS2
          generalize longestF p s = z4 at HL1 HL2
          have e1 : (b1 != b1) = false := bne_self_eq_false b1
          have e2 : (b2 != b2) = false := bne_self_eq_false b2
          have e3 : (b3 != b3) = false := bne_self_eq_false b3
          have e4 : (z4 != z4) = false := bne_self_eq_false z4
          go_wp2_with (first
            | (go_at_call 19; refine (HM1.out _ HI.out).mono ?_; rintro e x1 ⟨rfl, k1⟩; have G1 := Lib.hid (HI.out.trans (k1.mono HI.out.size)); clear k1)
            | (go_at_call 27; refine (HM2.out _ G1.out).mono ?_; rintro e x2 ⟨rfl, k2⟩; have G2 := Lib.hid (G1.out.trans (k2.mono G1.out.size)); clear k2)
            | (go_at_call 24; refine (HP1.out _ G2.out).mono ?_; rintro e x3 ⟨rfl, k3⟩; have G3 := Lib.hid (G2.out.trans (k3.mono G2.out.size)); clear k3)
            | (go_at_call 28; refine (HP2.out _ G3.out).mono ?_; rintro e x4 ⟨rfl, k4⟩; have G4 := Lib.hid (G3.out.trans (k4.mono G3.out.size)); clear k4)
            | (go_at_call 25; refine (HS1.out _ G4.out).mono ?_; rintro e x5 ⟨rfl, k5⟩; have G5 := Lib.hid (G4.out.trans (k5.mono G4.out.size)); clear k5)
            | (go_at_call 29; refine (HS2.out _ G5.out).mono ?_; rintro e x6 ⟨rfl, k6⟩; have G6 := Lib.hid (G5.out.trans (k6.mono G5.out.size)); clear k6)
            | (go_at_call 23; refine (HL1.out _ G6.out).mono ?_; rintro e x7 ⟨rfl, k7⟩; have G7 := Lib.hid (G6.out.trans (k7.mono G6.out.size)); clear k7)
            | (go_at_call 30; refine (HL2.out _ G7.out).mono ?_; rintro e x8 ⟨rfl, k8⟩; have G8 := Lib.hid (G7.out.trans (k8.mono G7.out.size)); clear k8))
          go_roundg 1
          case measure => omega
          case rel => exact .inr (.inl ⟨rfl, G8.out, by omega⟩)
        · go_upto_region 9 with fail
          have HM1 := Lib.hid (fun W (h : Below w2.heap.size w2 W) => match_any p t (.slice A p.length c) W (HR2.out.below h (Nat.le_refl _)) (by omega) (by omega))
          have HM2 := Lib.hid (fun W (h : Below w2.heap.size w2 W) => rmatch_any p t (.slice A p.length c) W (HR2.out.below h (Nat.le_refl _)) (by omega) (by omega))
          have HP1 := Lib.hid (fun W (h : Below w2.heap.size w2 W) => prefix_any p t (.slice A p.length c) W (HR2.out.below h (Nat.le_refl _)) (by omega) (by omega))
          have HP2 := Lib.hid (fun W (h : Below w2.heap.size w2 W) => rprefix_any p t (.slice A p.length c) W (HR2.out.below h (Nat.le_refl _)) (by omega) (by omega))
          have HS1 := Lib.hid (fun W (h : Below w2.heap.size w2 W) => suffix_any p t (.slice A p.length c) W (HR2.out.below h (Nat.le_refl _)) (by omega) (by omega))
          have HS2 := Lib.hid (fun W (h : Below w2.heap.size w2 W) => rsuffix_any p t (.slice A p.length c) W (HR2.out.below h (Nat.le_refl _)) (by omega) (by omega))
          have HL1 := Lib.hid (fun W (h : Below w2.heap.size w2 W) => longest_any p t (.slice A p.length c) W (HR2.out.below h (Nat.le_refl _)) (by omega) (by omega))
          have HL2 := Lib.hid (fun W (h : Below w2.heap.size w2 W) => rlongest_any p t (.slice A p.length c) W (HR2.out.below h (Nat.le_refl _)) (by omega) (by omega))
          generalize matchF p t = b1 at HM1 HM2
          generalize prefixF p t = b2 at HP1 HP2
          generalize suffixF p t = b3 at HS1 HS2
          generalize longestF p t = z4 at HL1 HL2
          have e1 : (b1 != b1) = false := bne_self_eq_false b1
          have e2 : (b2 != b2) = false := bne_self_eq_false b2
          have e3 : (b3 != b3) = false := bne_self_eq_false b3
          have e4 : (z4 != z4) = false := bne_self_eq_false z4
          go_wp2_with (first
            | (go_at_call 19; refine (HM1.out _ HI.out).mono ?_; rintro e x1 ⟨rfl, k1⟩; have G1 := Lib.hid (HI.out.trans (k1.mono HI.out.size)); clear k1)
            | (go_at_call 27; refine (HM2.out _ G1.out).mono ?_; rintro e x2 ⟨rfl, k2⟩; have G2 := Lib.hid (G1.out.trans (k2.mono G1.out.size)); clear k2)
            | (go_at_call 24; refine (HP1.out _ G2.out).mono ?_; rintro e x3 ⟨rfl, k3⟩; have G3 := Lib.hid (G2.out.trans (k3.mono G2.out.size)); clear k3)
            | (go_at_call 28; refine (HP2.out _ G3.out).mono ?_; rintro e x4 ⟨rfl, k4⟩; have G4 := Lib.hid (G3.out.trans (k4.mono G3.out.size)); clear k4)
            | (go_at_call 25; refine (HS1.out _ G4.out).mono ?_; rintro e x5 ⟨rfl, k5⟩; have G5 := Lib.hid (G4.out.trans (k5.mono G4.out.size)); clear k5)
            | (go_at_call 29; refine (HS2.out _ G5.out).mono ?_; rintro e x6 ⟨rfl, k6⟩; have G6 := Lib.hid (G5.out.trans (k6.mono G5.out.size)); clear k6)
            | (go_at_call 23; refine (HL1.out _ G6.out).mono ?_; rintro e x7 ⟨rfl, k7⟩; have G7 := Lib.hid (G6.out.trans (k7.mono G6.out.size)); clear k7)
            | (go_at_call 30; refine (HL2.out _ G7.out).mono ?_; rintro e x8 ⟨rfl, k8⟩; have G8 := Lib.hid (G7.out.trans (k8.mono G7.out.size)); clear k8))
          go_roundg 0
          case measure => omega
          case rel => exact .inr (.inr ⟨rfl, G8.out⟩)
        · have HV1 := Lib.hid (fun W (h : Below w2.heap.size w2 W) => valid_any p (.slice A p.length c) W (HR2.out.below h (Nat.le_refl _)) (by omega))
          have HV2 := Lib.hid (fun W (h : Below w2.heap.size w2 W) => rvalid_any p (.slice A p.length c) W (HR2.out.below h (Nat.le_refl _)) (by omega))
          have HX1 := Lib.hid (fun W (h : Below w2.heap.size w2 W) => revp_any p (.slice A p.length c) W (HR2.out.below h (Nat.le_refl _)) (by omega))
          have HX2 := Lib.hid (fun W (h : Below w2.heap.size w2 W) => rrev_any p (.slice A p.length c) W (HR2.out.below h (Nat.le_refl _)) (by omega))
          generalize validF p = z5 at HV1 HV2
          have e5 : (z5 != z5) = false := bne_self_eq_false z5
          go_upto_region 14 with (first
            | (go_at_call 22; refine (HV1.out _ HI.out).mono ?_; rintro e x1 ⟨rfl, k1⟩; have G1 := Lib.hid (HI.out.trans (k1.mono HI.out.size)); clear k1)
            | (go_at_call 31; refine (HV2.out _ G1.out).mono ?_; rintro e x2 ⟨rfl, k2⟩; have G2 := Lib.hid (G1.out.trans (k2.mono G1.out.size)); clear k2)
            | (go_at_call 26; refine (HX1.out _ G2.out).mono ?_; rintro e x3 ⟨v3, rfl, hr3, k3⟩; have G3 := Lib.hid (G2.out.trans (k3.mono G2.out.size)); have HR3 := Lib.hid hr3; clear hr3 k3)
            | (go_at_call 32; refine (HX2.out _ G3.out).mono ?_; rintro e x4 ⟨v4, rfl, hr4, k4⟩; have G4 := Lib.hid (G3.out.trans (k4.mono G3.out.size)); have HR4 := Lib.hid hr4; have HR5 := Lib.hid (HR3.out.below k4 (Nat.le_refl _)); clear hr4 k4)
            | (go_at_call 16; refine (same_any p.reverse v3 v4 _ HR5.out HR4.out (by simp; omega)).mono ?_; rintro e x5 ⟨rfl, k5⟩; have G5 := Lib.hid (G4.out.trans (k5.mono G4.out.size)); clear k5))
          go_wp2_with fail
          go_roundg 1
          case measure => omega
          case rel => exact .inr (.inl ⟨rfl, HB2.out.trans (G5.out.mono HB2.out.size), by omega⟩)
    ·
      go_upto_region 6 with fail
      go_upto_region 7 with (go_at_call 21; refine (HT.out _ HB.out).mono ?_; rintro e w2 ⟨t, ht, rfl, hb2⟩)
      have HB2 := Lib.hid (HB.out.trans (hb2.mono HB.out.size))
      have HR2 := Lib.hid (HQ1.out _ HB2.out)
      clear hb2 HB
      have j0 : ∀ w, (Instr.index 25 (.agg #[.string s, .string t]) (.int .i64 0)).run Try.prog w = .ok (.string s) w := fun _ => by kernel_rfl
      have j1 : ∀ w, (Instr.index 25 (.agg #[.string s, .string t]) (.int .i64 1)).run Try.prog w = .ok (.string t) w := fun _ => by kernel_rfl
      obtain ⟨wo, HWO⟩ : ∃ wo, Hid (wo = w2) := ⟨w2, rfl⟩
      go_loopg [38] 2 (fun n kv wr => (kv = .int .i64 0 ∧ Hid (Below w2.heap.size w2 wr) ∧ 2 ≤ n) ∨ (kv = .int .i64 1 ∧ Hid (Below w2.heap.size w2 wr) ∧ 1 ≤ n) ∨ (kv = .int .i64 2 ∧ Hid (Below w2.heap.size w2 wr)))
      case atStart => exact .inl ⟨rfl, Below.refl _ _, by omega⟩
      case round =>
        rcases hrel with ⟨rfl, HI, hgk2⟩ | ⟨rfl, HI, hgk2⟩ | ⟨rfl, HI⟩
        · go_upto_region 9 with fail
          have HM1 := Lib.hid (fun W (h : Below w2.heap.size w2 W) => match_any q s (.slice A4 q.length c4) W (HR2.out.below h (Nat.le_refl _)) (by omega) (by omega))
          have HM2 := Lib.hid (fun W (h : Below w2.heap.size w2 W) => rmatch_any q s (.slice A4 q.length c4) W (HR2.out.below h (Nat.le_refl _)) (by omega) (by omega))
          have HP1 := Lib.hid (fun W (h : Below w2.heap.size w2 W) => prefix_any q s (.slice A4 q.length c4) W (HR2.out.below h (Nat.le_refl _)) (by omega) (by omega))
          have HP2 := Lib.hid (fun W (h : Below w2.heap.size w2 W) => rprefix_any q s (.slice A4 q.length c4) W (HR2.out.below h (Nat.le_refl _)) (by omega) (by omega))
          have HS1 := Lib.hid (fun W (h : Below w2.heap.size w2 W) => suffix_any q s (.slice A4 q.length c4) W (HR2.out.below h (Nat.le_refl _)) (by omega) (by omega))
          have HS2 := Lib.hid (fun W (h : Below w2.heap.size w2 W) => rsuffix_any q s (.slice A4 q.length c4) W (HR2.out.below h (Nat.le_refl _)) (by omega) (by omega))
          have HL1 := Lib.hid (fun W (h : Below w2.heap.size w2 W) => longest_any q s (.slice A4 q.length c4) W (HR2.out.below h (Nat.le_refl _)) (by omega) (by omega))
          have HL2 := Lib.hid (fun W (h : Below w2.heap.size w2 W) => rlongest_any q s (.slice A4 q.length c4) W (HR2.out.below h (Nat.le_refl _)) (by omega) (by omega))
          generalize matchF q s = b1 at HM1 HM2
          generalize prefixF q s = b2 at HP1 HP2
          generalize suffixF q s = b3 at HS1 HS2
          generalize longestF q s = z4 at HL1 HL2
          have e1 : (b1 != b1) = false := bne_self_eq_false b1
          have e2 : (b2 != b2) = false := bne_self_eq_false b2
          have e3 : (b3 != b3) = false := bne_self_eq_false b3
          have e4 : (z4 != z4) = false := bne_self_eq_false z4
          go_wp2_with (first
            | (go_at_call 19; refine (HM1.out _ HI.out).mono ?_; rintro e x1 ⟨rfl, k1⟩; have G1 := Lib.hid (HI.out.trans (k1.mono HI.out.size)); clear k1)
            | (go_at_call 27; refine (HM2.out _ G1.out).mono ?_; rintro e x2 ⟨rfl, k2⟩; have G2 := Lib.hid (G1.out.trans (k2.mono G1.out.size)); clear k2)
            | (go_at_call 24; refine (HP1.out _ G2.out).mono ?_; rintro e x3 ⟨rfl, k3⟩; have G3 := Lib.hid (G2.out.trans (k3.mono G2.out.size)); clear k3)
            | (go_at_call 28; refine (HP2.out _ G3.out).mono ?_; rintro e x4 ⟨rfl, k4⟩; have G4 := Lib.hid (G3.out.trans (k4.mono G3.out.size)); clear k4)
            | (go_at_call 25; refine (HS1.out _ G4.out).mono ?_; rintro e x5 ⟨rfl, k5⟩; have G5 := Lib.hid (G4.out.trans (k5.mono G4.out.size)); clear k5)
            | (go_at_call 29; refine (HS2.out _ G5.out).mono ?_; rintro e x6 ⟨rfl, k6⟩; have G6 := Lib.hid (G5.out.trans (k6.mono G5.out.size)); clear k6)
            | (go_at_call 23; refine (HL1.out _ G6.out).mono ?_; rintro e x7 ⟨rfl, k7⟩; have G7 := Lib.hid (G6.out.trans (k7.mono G6.out.size)); clear k7)
            | (go_at_call 30; refine (HL2.out _ G7.out).mono ?_; rintro e x8 ⟨rfl, k8⟩; have G8 := Lib.hid (G7.out.trans (k8.mono G7.out.size)); clear k8))
          go_roundg 1
          case measure => omega
          case rel => exact .inr (.inl ⟨rfl, G8.out, by omega⟩)
        · go_upto_region 9 with fail
          have HM1 := Lib.hid (fun W (h : Below w2.heap.size w2 W) => match_any q t (.slice A4 q.length c4) W (HR2.out.below h (Nat.le_refl _)) (by omega) (by omega))
          have HM2 := Lib.hid (fun W (h : Below w2.heap.size w2 W) => rmatch_any q t (.slice A4 q.length c4) W (HR2.out.below h (Nat.le_refl _)) (by omega) (by omega))
          have HP1 := Lib.hid (fun W (h : Below w2.heap.size w2 W) => prefix_any q t (.slice A4 q.length c4) W (HR2.out.below h (Nat.le_refl _)) (by omega) (by omega))
          have HP2 := Lib.hid (fun W (h : Below w2.heap.size w2 W) => rprefix_any q t (.slice A4 q.length c4) W (HR2.out.below h (Nat.le_refl _)) (by omega) (by omega))
          have HS1 := Lib.hid (fun W (h : Below w2.heap.size w2 W) => suffix_any q t (.slice A4 q.length c4) W (HR2.out.below h (Nat.le_refl _)) (by omega) (by omega))
          have HS2 := Lib.hid (fun W (h : Below w2.heap.size w2 W) => rsuffix_any q t (.slice A4 q.length c4) W (HR2.out.below h (Nat.le_refl _)) (by omega) (by omega))
          have HL1 := Lib.hid (fun W (h : Below w2.heap.size w2 W) => longest_any q t (.slice A4 q.length c4) W (HR2.out.below h (Nat.le_refl _)) (by omega) (by omega))
          have HL2 := Lib.hid (fun W (h : Below w2.heap.size w2 W) => rlongest_any q t (.slice A4 q.length c4) W (HR2.out.below h (Nat.le_refl _)) (by omega) (by omega))
          generalize matchF q t = b1 at HM1 HM2
          generalize prefixF q t = b2 at HP1 HP2
          generalize suffixF q t = b3 at HS1 HS2
          generalize longestF q t = z4 at HL1 HL2
          have e1 : (b1 != b1) = false := bne_self_eq_false b1
          have e2 : (b2 != b2) = false := bne_self_eq_false b2
          have e3 : (b3 != b3) = false := bne_self_eq_false b3
          have e4 : (z4 != z4) = false := bne_self_eq_false z4
          go_wp2_with (first
            | (go_at_call 19; refine (HM1.out _ HI.out).mono ?_; rintro e x1 ⟨rfl, k1⟩; have G1 := Lib.hid (HI.out.trans (k1.mono HI.out.size)); clear k1)
            | (go_at_call 27; refine (HM2.out _ G1.out).mono ?_; rintro e x2 ⟨rfl, k2⟩; have G2 := Lib.hid (G1.out.trans (k2.mono G1.out.size)); clear k2)
            | (go_at_call 24; refine (HP1.out _ G2.out).mono ?_; rintro e x3 ⟨rfl, k3⟩; have G3 := Lib.hid (G2.out.trans (k3.mono G2.out.size)); clear k3)
            | (go_at_call 28; refine (HP2.out _ G3.out).mono ?_; rintro e x4 ⟨rfl, k4⟩; have G4 := Lib.hid (G3.out.trans (k4.mono G3.out.size)); clear k4)
            | (go_at_call 25; refine (HS1.out _ G4.out).mono ?_; rintro e x5 ⟨rfl, k5⟩; have G5 := Lib.hid (G4.out.trans (k5.mono G4.out.size)); clear k5)
            | (go_at_call 29; refine (HS2.out _ G5.out).mono ?_; rintro e x6 ⟨rfl, k6⟩; have G6 := Lib.hid (G5.out.trans (k6.mono G5.out.size)); clear k6)
            | (go_at_call 23; refine (HL1.out _ G6.out).mono ?_; rintro e x7 ⟨rfl, k7⟩; have G7 := Lib.hid (G6.out.trans (k7.mono G6.out.size)); clear k7)
            | (go_at_call 30; refine (HL2.out _ G7.out).mono ?_; rintro e x8 ⟨rfl, k8⟩; have G8 := Lib.hid (G7.out.trans (k8.mono G7.out.size)); clear k8))
          go_roundg 0
          case measure => omega
          case rel => exact .inr (.inr ⟨rfl, G8.out⟩)
        · have HV1 := Lib.hid (fun W (h : Below w2.heap.size w2 W) => valid_any q (.slice A4 q.length c4) W (HR2.out.below h (Nat.le_refl _)) (by omega))
          have HV2 := Lib.hid (fun W (h : Below w2.heap.size w2 W) => rvalid_any q (.slice A4 q.length c4) W (HR2.out.below h (Nat.le_refl _)) (by omega))
          have HX1 := Lib.hid (fun W (h : Below w2.heap.size w2 W) => revp_any q (.slice A4 q.length c4) W (HR2.out.below h (Nat.le_refl _)) (by omega))
          have HX2 := Lib.hid (fun W (h : Below w2.heap.size w2 W) => rrev_any q (.slice A4 q.length c4) W (HR2.out.below h (Nat.le_refl _)) (by omega))
          generalize validF q = z5 at HV1 HV2
          have e5 : (z5 != z5) = false := bne_self_eq_false z5
          go_upto_region 14 with (first
            | (go_at_call 22; refine (HV1.out _ HI.out).mono ?_; rintro e x1 ⟨rfl, k1⟩; have G1 := Lib.hid (HI.out.trans (k1.mono HI.out.size)); clear k1)
            | (go_at_call 31; refine (HV2.out _ G1.out).mono ?_; rintro e x2 ⟨rfl, k2⟩; have G2 := Lib.hid (G1.out.trans (k2.mono G1.out.size)); clear k2)
            | (go_at_call 26; refine (HX1.out _ G2.out).mono ?_; rintro e x3 ⟨v3, rfl, hr3, k3⟩; have G3 := Lib.hid (G2.out.trans (k3.mono G2.out.size)); have HR3 := Lib.hid hr3; clear hr3 k3)
            | (go_at_call 32; refine (HX2.out _ G3.out).mono ?_; rintro e x4 ⟨v4, rfl, hr4, k4⟩; have G4 := Lib.hid (G3.out.trans (k4.mono G3.out.size)); have HR4 := Lib.hid hr4; have HR5 := Lib.hid (HR3.out.below k4 (Nat.le_refl _)); clear hr4 k4)
            | (go_at_call 16; refine (same_any q.reverse v3 v4 _ HR5.out HR4.out (by simp; omega)).mono ?_; rintro e x5 ⟨rfl, k5⟩; have G5 := Lib.hid (G4.out.trans (k5.mono G4.out.size)); clear k5))
          go_wp2_with fail
          go_roundg 0
          case measure => omega
          case rel => exact .inr (.inr ⟨rfl, HB2.out.trans (G5.out.mono HB2.out.size)⟩)
    · go_wp2_with (go_at_call 12; refine (HK.out _).mono ?_; rintro e w2 ⟨rfl, hb2⟩)
      go_ret
      exact ⟨rfl, HB1.out.trans ((HB.out.trans (hb2.mono HB.out.size)).mono HB1.out.size)⟩

end Go.Proofs.Ytanpiidhcijfaaa
