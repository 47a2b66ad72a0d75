
/-
  The statement SegmentParses: the walk.
-/
import Derived.Test.YtpboaadjbkaidaaDoorPack7
namespace Go.Proofs.YtpboaadjbkaidaaDoor
set_option maxRecDepth 100000
open Go.RowKit

set_option maxRecDepth 100000 in
set_option maxHeartbeats 8000000 in
theorem walk_SegmentParses (s : ByteArray) (A : Option Addr) (n c : Nat) (l : List Int) (w : World) (hg : Got w) (h0 : s.size ≤ maxLen) (h1 : n = l.length ∧ l.length ≤ maxLen ∧ RdE intC 1 w (.slice A n c) l ∧ ∀ x ∈ l, IntIn x) :
    Calls Tryd.prog 4 #[.string s, .slice A n c] w fun e w' => e = .returned (.bool true) ∧ Below w.heap.size w w' := by
  obtain ⟨hn, hlm, hr, hin⟩ := h1
  subst hn
  unfold maxLen at hlm h0
  have HK := Lib.hid (fun (w' : World) (h : Below w.heap.size w w') => known6_any w' (got_below hg h))
  go_enter Tryd.func4, Tryd.ntmps4
  by_cases h40 : 400 < s.size
  · have h40i : (400 : Int) < (s.size : Int) := by omega
    go_wp2_with (go_at_call 17; refine (HK.out _ (Below.refl _ _)).mono ?_; rintro e w1 ⟨rfl, hb1⟩)
    go_ret
    exact ⟨rfl, hb1⟩
  have h40i : ¬ (400 : Int) < (s.size : Int) := by omega
  have HT := Lib.hid (file6_any A c l w hr hin (by omega))
  clear hr hin
  go_upto_region 4 with (go_at_call 19; refine HT.out.mono ?_; rintro e w2 ⟨u2, hu2, rfl, hb2⟩)
  have HB := Lib.hid hb2
  clear hb2 HT
  obtain ⟨W2, HW2⟩ : ∃ W2 : World, Hid (W2 = w2) := ⟨w2, rfl⟩
  go_loopg [6, 7, 8, 9, 10, 11, 12, 21] 2 (fun gk v6 v7 v8 v9 v10 v11 v12 iv wr => ∃ i : Nat, i ≤ 2 ∧ iv = .int .i64 i ∧ Hid (Below w.heap.size w wr) ∧ 2 - i ≤ gk)
  case atStart => exact ⟨0, by omega, rfl, HB.out, by omega⟩
  case round =>
    clear HW2
    obtain ⟨i, hi, rfl, HB2, hgk⟩ := hrel
    have hBs := HB2.out.size
    rcases (show i = 0 ∨ i = 1 ∨ i = 2 by omega) with rfl | rfl | rfl
    · have HP1 := Lib.hid (segParse_any s wr (got_below hg HB2.out))
      have HP2 := Lib.hid (fun w' => rrules_any s w')
      have hfn := fine_small (rulesF_fine s)
      unfold RetTbs at HP1 HP2
      generalize rulesF s = r at HP1 HP2 hfn
      obtain ⟨ts, k, x⟩ := r
      simp only at HP1 HP2 hfn
      have HIX := idx_fst s u2
      have t1 : ((k : Int) != (k : Int)) = false := bne_self_eq_false _
      have t2 : (x != x) = false := bne_self_eq_false x
      go_wp2_with (first
        | (go_at_call 20; refine HP1.out.mono ?_; rintro e w3 ⟨v3, rfl, hr3, hb3⟩; obtain ⟨A3, c3, hv3⟩ := hr3.shape; subst hv3; have HB3 := Lib.hid (HB2.out.trans (hb3.mono hBs)))
        | (go_at_call 21; refine (HP2.out _).mono ?_; rintro e w4 ⟨v4, rfl, hr4, hb4⟩; obtain ⟨A4, c4, hv4⟩ := hr4.shape; subst hv4; have HB4 := Lib.hid (HB3.out.trans (hb4.mono HB3.out.size)); have HR3 := Lib.hid (hr3.below hb4 (Nat.le_refl _)))
        | (go_at_call 22; refine (sameTables_any ts _ _ _ HR3.out hr4 hfn).mono ?_; rintro e w5 ⟨rfl, hb5⟩))
      go_roundg (2 - (0 + 1))
      case measure => omega
      case rel => exact ⟨0 + 1, by omega, rfl, HB4.out.trans (hb5.mono HB4.out.size), Nat.le_refl _⟩
    · have HP1 := Lib.hid (segParse_any u2 wr (got_below hg HB2.out))
      have HP2 := Lib.hid (fun w' => rrules_any u2 w')
      have hfn := fine_small (rulesF_fine u2)
      unfold RetTbs at HP1 HP2
      generalize rulesF u2 = r at HP1 HP2 hfn
      obtain ⟨ts, k, x⟩ := r
      simp only at HP1 HP2 hfn
      have HIX := idx_snd s u2
      have t1 : ((k : Int) != (k : Int)) = false := bne_self_eq_false _
      have t2 : (x != x) = false := bne_self_eq_false x
      go_wp2_with (first
        | (go_at_call 20; refine HP1.out.mono ?_; rintro e w3 ⟨v3, rfl, hr3, hb3⟩; obtain ⟨A3, c3, hv3⟩ := hr3.shape; subst hv3; have HB3 := Lib.hid (HB2.out.trans (hb3.mono hBs)))
        | (go_at_call 21; refine (HP2.out _).mono ?_; rintro e w4 ⟨v4, rfl, hr4, hb4⟩; obtain ⟨A4, c4, hv4⟩ := hr4.shape; subst hv4; have HB4 := Lib.hid (HB3.out.trans (hb4.mono HB3.out.size)); have HR3 := Lib.hid (hr3.below hb4 (Nat.le_refl _)))
        | (go_at_call 22; refine (sameTables_any ts _ _ _ HR3.out hr4 hfn).mono ?_; rintro e w5 ⟨rfl, hb5⟩))
      go_roundg (2 - (1 + 1))
      case measure => omega
      case rel => exact ⟨1 + 1, by omega, rfl, HB4.out.trans (hb5.mono HB4.out.size), Nat.le_refl _⟩
    · go_wp2_with (go_at_call 17; refine (HK.out _ HB2.out).mono ?_; rintro e w9 ⟨rfl, hb9⟩)
      go_ret
      exact ⟨rfl, HB2.out.trans (hb9.mono HB2.out.size)⟩

end Go.Proofs.YtpboaadjbkaidaaDoor
