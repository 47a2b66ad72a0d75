
/-
  The statement SegmentDecides: the walk.
-/
import Derived.Test.YtpboaadjbkaidaaDoorPack5
namespace Go.Proofs.YtpboaadjbkaidaaDoor
set_option maxRecDepth 100000
open Go.RowKit

set_option maxRecDepth 100000 in
set_option maxHeartbeats 8000000 in
theorem walk_SegmentDecides (A : Option Addr) (n c : Nat) (l : List Int) (A2 : Option Addr) (n2 c2 : Nat) (m : List Int) (s : ByteArray) (at0 : Int) (w : World) (hg : Got w) (h0 : n = l.length ∧ l.length ≤ maxLen ∧ RdE intC 1 w (.slice A n c) l ∧ ∀ x ∈ l, IntIn x)
    (h1 : n2 = m.length ∧ m.length ≤ maxLen ∧ RdE intC 1 w (.slice A2 n2 c2) m ∧ ∀ x ∈ m, IntIn x) (h2 : s.size ≤ maxLen) (hx : (Lit.int .i64 at0).wf = true) :
    Calls Tryd.prog 7 #[.slice A n c, .slice A2 n2 c2, .string s, .int .i64 at0] w fun e w' => e = .returned (.bool true) ∧ Below w.heap.size w w' := by
  obtain ⟨hn, hlm, hr, hin⟩ := h0
  obtain ⟨hn2, hlm2, hr2, hin2⟩ := h1
  subst hn hn2
  have hat := wf_i64 hx
  unfold maxLen at hlm hlm2 h2
  have HK := Lib.hid (fun (w' : World) (h : Below w.heap.size w w') => known6_any w' (got_below hg h))
  go_enter Tryd.func7, Tryd.ntmps7
  by_cases h60 : 100 < l.length
  · have h60i : (100 : Int) < (l.length : Int) := by omega
    go_wp2_with (go_at_call 17; refine (HK.out _ (Below.refl _ _)).mono ?_; rintro e w1 ⟨rfl, hb1⟩)
    go_ret
    exact ⟨rfl, hb1⟩
  have h60i : ¬ (100 : Int) < (l.length : Int) := by omega
  by_cases h40 : 40 < s.size
  · have h40i : (40 : Int) < (s.size : Int) := by omega
    go_wp2_with (go_at_call 17; refine (HK.out _ (Below.refl _ _)).mono ?_; rintro e w1 ⟨rfl, hb1⟩)
    go_ret
    exact ⟨rfl, hb1⟩
  have h40i : ¬ (40 : Int) < (s.size : Int) := by omega
  have HM := Lib.hid (rules6_any A c l w hr hin)
  have HT := Lib.hid (fun w' (h : Below w.heap.size w w') => text6_any A2 c2 m w' (hr2.below h (Nat.le_refl _)) hin2 (by omega))
  have hsm := rulesM_small l
  generalize (rulesM l 0 5).1 = rs at HM hsm
  clear hr hr2 hin hin2
  go_upto_region 5 with (first
    | (go_at_call 27; refine HM.out.mono ?_; rintro e w1 ⟨v1, rfl, hrd, hb1⟩; obtain ⟨A1, c1, hv1⟩ := hrd.shape; subst hv1)
    | (go_at_call 28; refine (HT.out _ hb1).mono ?_; rintro e w2 ⟨u2, hu2, rfl, hb2⟩))
  have HR := Lib.hid (fun (w' : World) (h : Below w2.heap.size w2 w') => (hrd.below hb2 (Nat.le_refl _)).below h (Nat.le_refl _))
  have HB := Lib.hid (hb1.trans (hb2.mono hb1.size))
  clear hrd hb1 hb2 HM HT
  obtain ⟨W2, HW2⟩ : ∃ W2 : World, Hid (W2 = w2) := ⟨w2, rfl⟩
  go_loopg [11, 12, 28] 2 (fun gk uv kv iv wr => ∃ i : Nat, i ≤ 2 ∧ iv = .int .i64 i ∧ Hid (Below w2.heap.size w2 wr) ∧ 2 - i ≤ gk)
  case atStart => exact ⟨0, by omega, rfl, Below.refl _ _, by omega⟩
  case round =>
    clear HW2
    obtain ⟨i, hi, rfl, HB2, hgk⟩ := hrel
    have hBs := HB2.out.size
    rcases (show i = 0 ∨ i = 1 ∨ i = 2 by omega) with rfl | rfl | rfl
    · have HU1 : s.size ≤ 40 := by omega
      have HD1 := Lib.hid (fun (w' : World) (h : Below w2.heap.size w2 w') => segDecide_any rs _ s at0 w' (HR.out w' h) hsm (by omega) hat)
      have HD2 := Lib.hid (fun (w' : World) (h : Below w2.heap.size w2 w') => rDecide_any rs _ s at0 w' (HR.out w' h) hsm (by omega) hat)
      have HE1 := Lib.hid (fun (w' : World) (h : Below w2.heap.size w2 w') => breaks_any rs _ s w' (HR.out w' h) hsm.1 hsm.2)
      have HE2 := Lib.hid (fun (w' : World) (h : Below w2.heap.size w2 w') => rBreaks_any rs _ s w' (HR.out w' h) hsm (by omega))
      have hbl := breaks_len rs s
      have HS := Lib.hid (fun (w' : World) (va vb : Value) (ha : RdE intC 1 w' va (breaksF rs s)) (hb : RdE intC 1 w' vb (breaksF rs s)) => sameInts_any (breaksF rs s) va vb w' ha hb (by omega))
      have hz1 := Int.emod_nonneg at0 (show ((s.size : Int) + 1) ≠ 0 by omega)
      have hz2 := Int.emod_lt_of_pos at0 (show (0 : Int) < (s.size : Int) + 1 by omega)
      have HPL := Lib.hid (fun w' => place_any at0 ((s.size : Int) + 1) w' hat (by omega) (by omega))
      generalize at0 % ((s.size : Int) + 1) = z at hz1 hz2 HPL
      have HD3 := Lib.hid (fun (w' : World) (h : Below w2.heap.size w2 w') => segDecide_any rs _ s z w' (HR.out w' h) hsm (by omega) ⟨by omega, by omega⟩)
      have HD4 := Lib.hid (fun (w' : World) (h : Below w2.heap.size w2 w') => rDecide_any rs _ s z w' (HR.out w' h) hsm (by omega) ⟨by omega, by omega⟩)
      generalize decB rs s at0 = b1 at HD1 HD2
      generalize decB rs s z = b2 at HD3 HD4
      generalize breaksF rs s = bl at HE1 HE2 hbl HS
      have HIX := idx_fst s u2
      have t1 : (b1 != b1) = false := bne_self_eq_false b1
      have t2 : (b2 != b2) = false := bne_self_eq_false b2
      go_upto_region 9 with (first
        | (go_at_call 29; refine (HD1.out _ HB2.out).mono ?_; rintro e w3 ⟨rfl, hb3⟩; have HB3 := Lib.hid (HB2.out.trans (hb3.mono HB2.out.size)))
        | (go_at_call 30; refine (HD2.out _ HB3.out).mono ?_; rintro e w4 ⟨rfl, hb4⟩; have HB4 := Lib.hid (HB3.out.trans (hb4.mono HB3.out.size)))
        | (go_at_call 16; refine (HE1.out _ HB4.out).mono ?_; rintro e w5 ⟨v5, rfl, ho5, hb5⟩; have HB5 := Lib.hid (HB4.out.trans (hb5.mono HB4.out.size)); have HO5 := Lib.hid (OwnE.rd (f := intC) (m := 1) (fun _ => rfl) ho5))
        | (go_at_call 31; refine (HE2.out _ HB5.out).mono ?_; rintro e w6 ⟨v6, rfl, ho6, hb6⟩; have HB6 := Lib.hid (HB5.out.trans (hb6.mono HB5.out.size)); have HO6 := Lib.hid (OwnE.rd (f := intC) (m := 1) (fun _ => rfl) ho6))
        | (go_at_call 18; refine (HS.out _ _ _ (HO5.out.below hb6 (Nat.le_refl _)) HO6.out).mono ?_; rintro e w7 ⟨rfl, hb7⟩; have HB7 := Lib.hid (HB6.out.trans (hb7.mono HB6.out.size))))
      go_upto_region 10 with (go_at_call 14; refine (HPL.out _).mono ?_; rintro e w8 ⟨rfl, rfl⟩)
      go_wp2_with (first
        | (go_at_call 29; refine (HD3.out _ HB7.out).mono ?_; rintro e w8 ⟨rfl, hb8⟩; have HB8 := Lib.hid (HB7.out.trans (hb8.mono HB7.out.size)))
        | (go_at_call 30; refine (HD4.out _ HB8.out).mono ?_; rintro e w9 ⟨rfl, hb9⟩; have HB9 := Lib.hid (HB8.out.trans (hb9.mono HB8.out.size))))
      go_roundg (2 - (0 + 1))
      case measure => omega
      case rel => exact ⟨0 + 1, by omega, rfl, HB9.out, Nat.le_refl _⟩
    · have HU1 : u2.size ≤ 40 := by omega
      have HD1 := Lib.hid (fun (w' : World) (h : Below w2.heap.size w2 w') => segDecide_any rs _ u2 at0 w' (HR.out w' h) hsm (by omega) hat)
      have HD2 := Lib.hid (fun (w' : World) (h : Below w2.heap.size w2 w') => rDecide_any rs _ u2 at0 w' (HR.out w' h) hsm (by omega) hat)
      have HE1 := Lib.hid (fun (w' : World) (h : Below w2.heap.size w2 w') => breaks_any rs _ u2 w' (HR.out w' h) hsm.1 hsm.2)
      have HE2 := Lib.hid (fun (w' : World) (h : Below w2.heap.size w2 w') => rBreaks_any rs _ u2 w' (HR.out w' h) hsm (by omega))
      have hbl := breaks_len rs u2
      have HS := Lib.hid (fun (w' : World) (va vb : Value) (ha : RdE intC 1 w' va (breaksF rs u2)) (hb : RdE intC 1 w' vb (breaksF rs u2)) => sameInts_any (breaksF rs u2) va vb w' ha hb (by omega))
      have hz1 := Int.emod_nonneg at0 (show ((u2.size : Int) + 1) ≠ 0 by omega)
      have hz2 := Int.emod_lt_of_pos at0 (show (0 : Int) < (u2.size : Int) + 1 by omega)
      have HPL := Lib.hid (fun w' => place_any at0 ((u2.size : Int) + 1) w' hat (by omega) (by omega))
      generalize at0 % ((u2.size : Int) + 1) = z at hz1 hz2 HPL
      have HD3 := Lib.hid (fun (w' : World) (h : Below w2.heap.size w2 w') => segDecide_any rs _ u2 z w' (HR.out w' h) hsm (by omega) ⟨by omega, by omega⟩)
      have HD4 := Lib.hid (fun (w' : World) (h : Below w2.heap.size w2 w') => rDecide_any rs _ u2 z w' (HR.out w' h) hsm (by omega) ⟨by omega, by omega⟩)
      generalize decB rs u2 at0 = b1 at HD1 HD2
      generalize decB rs u2 z = b2 at HD3 HD4
      generalize breaksF rs u2 = bl at HE1 HE2 hbl HS
      have HIX := idx_snd s u2
      have t1 : (b1 != b1) = false := bne_self_eq_false b1
      have t2 : (b2 != b2) = false := bne_self_eq_false b2
      go_upto_region 9 with (first
        | (go_at_call 29; refine (HD1.out _ HB2.out).mono ?_; rintro e w3 ⟨rfl, hb3⟩; have HB3 := Lib.hid (HB2.out.trans (hb3.mono HB2.out.size)))
        | (go_at_call 30; refine (HD2.out _ HB3.out).mono ?_; rintro e w4 ⟨rfl, hb4⟩; have HB4 := Lib.hid (HB3.out.trans (hb4.mono HB3.out.size)))
        | (go_at_call 16; refine (HE1.out _ HB4.out).mono ?_; rintro e w5 ⟨v5, rfl, ho5, hb5⟩; have HB5 := Lib.hid (HB4.out.trans (hb5.mono HB4.out.size)); have HO5 := Lib.hid (OwnE.rd (f := intC) (m := 1) (fun _ => rfl) ho5))
        | (go_at_call 31; refine (HE2.out _ HB5.out).mono ?_; rintro e w6 ⟨v6, rfl, ho6, hb6⟩; have HB6 := Lib.hid (HB5.out.trans (hb6.mono HB5.out.size)); have HO6 := Lib.hid (OwnE.rd (f := intC) (m := 1) (fun _ => rfl) ho6))
        | (go_at_call 18; refine (HS.out _ _ _ (HO5.out.below hb6 (Nat.le_refl _)) HO6.out).mono ?_; rintro e w7 ⟨rfl, hb7⟩; have HB7 := Lib.hid (HB6.out.trans (hb7.mono HB6.out.size))))
      go_upto_region 10 with (go_at_call 14; refine (HPL.out _).mono ?_; rintro e w8 ⟨rfl, rfl⟩)
      go_wp2_with (first
        | (go_at_call 29; refine (HD3.out _ HB7.out).mono ?_; rintro e w8 ⟨rfl, hb8⟩; have HB8 := Lib.hid (HB7.out.trans (hb8.mono HB7.out.size)))
        | (go_at_call 30; refine (HD4.out _ HB8.out).mono ?_; rintro e w9 ⟨rfl, hb9⟩; have HB9 := Lib.hid (HB8.out.trans (hb9.mono HB8.out.size))))
      go_roundg (2 - (1 + 1))
      case measure => omega
      case rel => exact ⟨1 + 1, by omega, rfl, HB9.out, Nat.le_refl _⟩
    · have HB7 := Lib.hid (HB.out.trans (HB2.out.mono HB.out.size))
      go_wp2_with (go_at_call 17; refine (HK.out _ HB7.out).mono ?_; rintro e w9 ⟨rfl, hb9⟩)
      go_ret
      exact ⟨rfl, HB7.out.trans (hb9.mono HB7.out.size)⟩

end Go.Proofs.YtpboaadjbkaidaaDoor
