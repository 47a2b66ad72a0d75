
/-
  The statement PatternEnds: the walk.
-/
import Derived.Test.YtanpiidhcijfaaaLaw5B
import Derived.Test.YtanpiidhcijfaaaMatchC
import Derived.Test.YtanpiidhcijfaaaMathLang
namespace Go.Proofs.Ytanpiidhcijfaaa
open Go.RowKit

set_option maxRecDepth 100000 in
set_option maxHeartbeats 4000000 in
theorem walk_PatternEnds (A : Option Addr) (n c : Nat) (l : List Int) (A2 : Option Addr) (n2 c2 : Nat) (m : List Int) (w : World) (h0 : n = l.length ∧ l.length ≤ maxLen ∧ RdE intC 1 w (.slice A n c) l ∧ ∀ x ∈ l, IntIn x)
    (h1 : n2 = m.length ∧ m.length ≤ maxLen ∧ RdE intC 1 w (.slice A2 n2 c2) m ∧ ∀ x ∈ m, IntIn x) :
    Calls Try.prog 9 #[.slice A n c, .slice A2 n2 c2] w fun e w' => e = .returned (.bool true) ∧ Below w.heap.size w w' := by
  obtain ⟨hn, hlm, hr, hin⟩ := h0
  obtain ⟨hn2, hlm2, hr2, hin2⟩ := h1
  subst hn hn2
  unfold maxLen at hlm hlm2
  have HK := Lib.hid known_any
  go_enter Try.func9, Try.ntmps9
  by_cases h60 : 60 < l.length
  · have h60i : (60 : Int) < (l.length : Int) := by omega
    go_wp2_with (go_at_call 12; refine (HK.out _).mono ?_; rintro e w1 ⟨rfl, hb1⟩)
    go_ret
    exact ⟨rfl, hb1⟩
  have h60i : ¬ (60 : Int) < (l.length : Int) := by omega
  have HM := Lib.hid (made_any A c l w hr hin)
  have HT := Lib.hid (fun w' (h : Below w.heap.size w w') => text_any A2 c2 m w' (hr2.below h (Nat.le_refl _)) hin2 hlm2)
  clear hr hr2 hin hin2
  go_upto_region 4 with (first
    | (go_at_call 20; refine HM.out.mono ?_; rintro e w1 ⟨v1, p, rfl, hp, hown, hb1, _⟩)
    | (go_at_call 21; refine (HT.out _ hb1).mono ?_; rintro e w2 ⟨s, hs, rfl, hb2⟩))
  have HR := Lib.hid ((OwnE.rd atC_len hown).below hb2 (Nat.le_refl _))
  have HB := Lib.hid (hb1.trans (hb2.mono hb1.size))
  clear hown hb1 hb2 HM HT
  have HMA := Lib.hid (fun (u : ByteArray) (w' : World) (hu : u.size ≤ 24) (h : Below w2.heap.size w2 w') => match_any p u v1 w' (HR.out.below h (Nat.le_refl _)) (by omega) (by omega))
  go_wp2_with fail
  obtain ⟨W2, HW2⟩ : ∃ W2 : World, Hid (W2 = w2) := ⟨w2, rfl⟩
  go_loopg [7, 8, 9] (s.size + 1) (fun n lv sv iv wr => ∃ i : Nat, i ≤ s.size + 1 ∧ lv = .int .i64 (longF (fun j => matchF p (s.extract 0 j)) i) ∧ sv = .bool (anyF (fun j => matchF p (s.extract j s.size)) i) ∧ iv = .int .i64 i ∧ Hid (Below w2.heap.size w2 wr) ∧ s.size + 1 - i ≤ n)
  case atStart => exact ⟨0, by omega, rfl, rfl, rfl, Below.refl _ _, by omega⟩
  case round =>
    obtain ⟨i, hi, rfl, rfl, rfl, HB2, hgk⟩ := hrel
    by_cases hil : i ≤ s.size
    · have hili : (i : Int) ≤ (s.size : Int) := by omega
      have hi0 : (0 : Int) ≤ (i : Int) := by omega
      have HL : Hid (longF (fun j => matchF p (s.extract 0 j)) (i + 1) = if matchF p (s.extract 0 i) = true then (i : Int) else longF (fun j => matchF p (s.extract 0 j)) i) := rfl
      have HA : Hid (anyF (fun j => matchF p (s.extract j s.size)) (i + 1) = (anyF (fun j => matchF p (s.extract j s.size)) i || matchF p (s.extract i s.size))) := rfl
      have HX1 := Lib.hid (fun w' h => HMA.out (s.extract 0 i) w' (by rw [ByteArray.size_extract]; omega) h)
      have HX2 := Lib.hid (fun w' h => HMA.out (s.extract i s.size) w' (by rw [ByteArray.size_extract]; omega) h)
      obtain ⟨m1, HM1⟩ : ∃ m1, Hid (m1 = matchF p (s.extract 0 i)) := ⟨_, rfl⟩
      obtain ⟨m2, HM2⟩ : ∃ m2, Hid (m2 = matchF p (s.extract i s.size)) := ⟨_, rfl⟩
      rw [← HM1.out] at HL HX1
      rw [← HM2.out] at HA HX2
      clear HM1 HM2
      generalize hlg : longF (fun j => matchF p (s.extract 0 j)) i = lg at HL ⊢
      generalize hsg : anyF (fun j => matchF p (s.extract j s.size)) i = sg at HA ⊢
      clear hlg hsg
      go_upto_if 28 with (go_at_call 19; refine (HX1.out _ HB2.out).mono ?_; rintro e w3 ⟨rfl, hb3⟩)
      have HB3 := Lib.hid (HB2.out.trans (hb3.mono HB2.out.size))
      clear hb3 HB2 HX1
      go_cut [7] (fun v wx => v = .int .i64 (if m1 = true then (i : Int) else lg) ∧ w3 = wx)
      case first =>
        cases m1 with
        | true =>
          go_wp2_with fail
          go_meet
          exact ⟨rfl, rfl⟩
        | false =>
          go_wp2_with fail
          go_meet
          exact ⟨rfl, rfl⟩
      case rest =>
        obtain ⟨rfl, rfl⟩ := hcut
        rw [← HL.out]
        cases sg with
        | true =>
          have HA2 : Hid (anyF (fun j => matchF p (s.extract j s.size)) (i + 1) = true) := HA.out
          go_wp2_with fail
          go_roundg (s.size + 1 - (i + 1))
          case measure => omega
          case rel => exact ⟨i + 1, by omega, rfl, by rw [HA2.out], by go_num, HB3.out, Nat.le_refl _⟩
        | false =>
          have HA2 : Hid (anyF (fun j => matchF p (s.extract j s.size)) (i + 1) = m2) := HA.out
          go_wp2_with (go_at_call 19; refine (HX2.out _ HB3.out).mono ?_; rintro e w4 ⟨rfl, hb4⟩)
          have HB4 := Lib.hid (HB3.out.trans (hb4.mono HB3.out.size))
          go_roundg (s.size + 1 - (i + 1))
          case measure => omega
          case rel => exact ⟨i + 1, by omega, rfl, by rw [HA2.out], by go_num, HB4.out, Nat.le_refl _⟩
    · obtain rfl : i = s.size + 1 := by omega
      have hili : ¬ (((s.size + 1 : Nat)) : Int) ≤ (s.size : Int) := by omega
      have e1 := ends_long p s
      have e2 := ends_suffix p s
      rw [← e1, ← e2]
      have HRW := Lib.hid (fun (w' : World) (h : Below w2.heap.size w2 w') => HR.out.below h (Nat.le_refl _))
      have HLO := Lib.hid (fun w' h => longest_any p s v1 w' (HRW.out w' h) (by omega) (by omega))
      have HPR := Lib.hid (fun w' h => prefix_any p s v1 w' (HRW.out w' h) (by omega) (by omega))
      have HSU := Lib.hid (fun w' h => suffix_any p s v1 w' (HRW.out w' h) (by omega) (by omega))
      have hpd : prefixF p s = decide (0 ≤ longestF p s) := rfl
      rw [hpd] at HPR
      clear e1 e2 hpd
      generalize longestF p s = lg at HLO HPR ⊢
      generalize suffixF p s = sg at HSU ⊢
      have HF : Hid (∀ w', Below w2.heap.size w2 w' → Below w.heap.size w w') := fun w' h => HB.out.trans (h.mono HB.out.size)
      by_cases h0 : 0 ≤ lg
      · rw [decide_eq_true h0] at HPR
        go_wp2_with (first
          | (go_at_call 23; refine (HLO.out _ HB2.out).mono ?_; rintro e w3 ⟨rfl, hb3⟩; have HB3 := Lib.hid (HB2.out.trans (hb3.mono HB2.out.size)))
          | (go_at_call 24; refine (HPR.out _ HB3.out).mono ?_; rintro e w4 ⟨rfl, hb4⟩; have HB4 := Lib.hid (HB3.out.trans (hb4.mono HB3.out.size)))
          | (go_at_call 25; refine (HSU.out _ HB4.out).mono ?_; rintro e w5 ⟨rfl, hb5⟩; have HB5 := Lib.hid (HB4.out.trans (hb5.mono HB4.out.size)))
          | (go_at_call 12; refine (HK.out _).mono ?_; rintro e w6 ⟨rfl, hb6⟩))
        go_ret
        exact ⟨ret_bool (by first | rfl | (rw [decide_eq_false (show ¬ 0 ≤ lg by omega)]; rfl)), HF.out _ (HB5.out.trans (hb6.mono HB5.out.size))⟩
      · rw [decide_eq_false h0] at HPR
        go_wp2_with (first
          | (go_at_call 23; refine (HLO.out _ HB2.out).mono ?_; rintro e w3 ⟨rfl, hb3⟩; have HB3 := Lib.hid (HB2.out.trans (hb3.mono HB2.out.size)))
          | (go_at_call 24; refine (HPR.out _ HB3.out).mono ?_; rintro e w4 ⟨rfl, hb4⟩; have HB4 := Lib.hid (HB3.out.trans (hb4.mono HB3.out.size)))
          | (go_at_call 25; refine (HSU.out _ HB4.out).mono ?_; rintro e w5 ⟨rfl, hb5⟩; have HB5 := Lib.hid (HB4.out.trans (hb5.mono HB4.out.size)))
          | (go_at_call 12; refine (HK.out _).mono ?_; rintro e w6 ⟨rfl, hb6⟩))
        go_ret
        exact ⟨ret_bool (by first | rfl | (rw [decide_eq_false (show ¬ 0 ≤ lg by omega)]; rfl)), HF.out _ (HB5.out.trans (hb6.mono HB5.out.size))⟩

end Go.Proofs.Ytanpiidhcijfaaa
