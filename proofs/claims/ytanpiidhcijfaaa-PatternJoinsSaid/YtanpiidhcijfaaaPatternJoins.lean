
/-
  The statement PatternJoins: the walk.
-/
import Derived.Test.YtanpiidhcijfaaaLaw5B
import Derived.Test.YtanpiidhcijfaaaMatchC
import Derived.Test.YtanpiidhcijfaaaMathLang
import Derived.Deep.RegionWith
namespace Go.Proofs.Ytanpiidhcijfaaa
open Go.RowKit

set_option maxRecDepth 100000 in
set_option maxHeartbeats 4000000 in
theorem walk_PatternJoins (A : Option Addr) (n c : Nat) (l : List Int) (A2 : Option Addr) (n2 c2 : Nat) (m : List Int) (A3 : Option Addr) (n3 c3 : Nat) (k : List Int) (w : World) (h0 : n = l.length ∧ l.length ≤ maxLen ∧ RdE intC 1 w (.slice A n c) l ∧ ∀ x ∈ l, IntIn x)
    (h1 : n2 = m.length ∧ m.length ≤ maxLen ∧ RdE intC 1 w (.slice A2 n2 c2) m ∧ ∀ x ∈ m, IntIn x) (h2 : n3 = k.length ∧ k.length ≤ maxLen ∧ RdE intC 1 w (.slice A3 n3 c3) k ∧ ∀ x ∈ k, IntIn x) :
    Calls Try.prog 7 #[.slice A n c, .slice A2 n2 c2, .slice A3 n3 c3] w fun e w' => e = .returned (.bool true) ∧ Below w.heap.size w w' := by
  obtain ⟨hn, hlm, hr, hin⟩ := h0
  obtain ⟨hn2, hlm2, hr2, hin2⟩ := h1
  obtain ⟨hn3, hlm3, hr3, hin3⟩ := h2
  subst hn hn2 hn3
  unfold maxLen at hlm hlm2 hlm3
  have HK := Lib.hid known_any
  go_enter Try.func7, Try.ntmps7
  by_cases h60 : 40 < l.length
  · have h60i : (40 : Int) < (l.length : Int) := by omega
    go_wp2_with (go_at_call 12; refine (HK.out _).mono ?_; rintro e w1 ⟨rfl, hb1⟩)
    go_ret
    exact ⟨rfl, hb1⟩
  have h60i : ¬ (40 : Int) < (l.length : Int) := by omega
  by_cases h61 : 40 < m.length
  · have h61i : (40 : Int) < (m.length : Int) := by omega
    go_wp2_with (go_at_call 12; refine (HK.out _).mono ?_; rintro e w1 ⟨rfl, hb1⟩)
    go_ret
    exact ⟨rfl, hb1⟩
  have h61i : ¬ (40 : Int) < (m.length : Int) := by omega
  have HM := Lib.hid (made_any A c l w hr hin)
  have HM2 := Lib.hid (fun w' (h : Below w.heap.size w w') => made_any A2 c2 m w' (hr2.below h (Nat.le_refl _)) hin2)
  have HT := Lib.hid (fun w' (h : Below w.heap.size w w') => text_any A3 c3 k w' (hr3.below h (Nat.le_refl _)) hin3 hlm3)
  clear hr hr2 hr3 hin hin2 hin3
  go_upto_region 4 with (first
    | (go_at_call_of 20 (Value.slice A l.length c); refine HM.out.mono ?_; rintro e w1 ⟨v1, p, rfl, hp, hown, hb1, _⟩)
    | (go_at_call_of 20 (Value.slice A2 m.length c2); refine (HM2.out _ hb1).mono ?_; rintro e w2 ⟨v2, q, rfl, hq, hown2, hb2, _⟩)
    | (go_at_call 21; refine (HT.out _ (hb1.trans (hb2.mono hb1.size))).mono ?_; rintro e w3 ⟨s, hs, rfl, hb3⟩))
  have HR := Lib.hid (((OwnE.rd atC_len hown).below hb2 (Nat.le_refl _)).below hb3 (Nat.le_refl _))
  have HR2 := Lib.hid ((OwnE.rd atC_len hown2).below hb3 (Nat.le_refl _))
  have hz2 := hb1.trans (hb2.mono hb1.size)
  have HB := Lib.hid (hz2.trans (hb3.mono hz2.size))
  clear hown hown2 hb1 hb2 hb3 HM HM2 HT hz2
  have HMA := Lib.hid (fun (u : ByteArray) (w' : World) (hu : u.size ≤ 24) (h : Below w3.heap.size w3 w') => match_any p u v1 w' (HR.out.below h (Nat.le_refl _)) (by omega) (by omega))
  have HMB := Lib.hid (fun (u : ByteArray) (w' : World) (hu : u.size ≤ 24) (h : Below w3.heap.size w3 w') => match_any q u v2 w' (HR2.out.below h (Nat.le_refl _)) (by omega) (by omega))
  go_wp2_with fail
  go_loopg [10, 11] (s.size + 1) (fun n sv iv wr => ∃ i : Nat, i ≤ s.size + 1 ∧ sv = .bool (anyF (fun j => matchF p (s.extract 0 j) && matchF q (s.extract j s.size)) i) ∧ iv = .int .i64 i ∧ Hid (Below w3.heap.size w3 wr) ∧ s.size + 1 - i ≤ n)
  case atStart => exact ⟨0, by omega, rfl, rfl, Below.refl _ _, by omega⟩
  case round =>
    obtain ⟨i, hi, rfl, rfl, HB2, hgk⟩ := hrel
    by_cases hil : i ≤ s.size
    · have hili : (i : Int) ≤ (s.size : Int) := by omega
      have hi0 : (0 : Int) ≤ (i : Int) := by omega
      have HA : Hid (anyF (fun j => matchF p (s.extract 0 j) && matchF q (s.extract j s.size)) (i + 1) = (anyF (fun j => matchF p (s.extract 0 j) && matchF q (s.extract j s.size)) i || (matchF p (s.extract 0 i) && matchF q (s.extract i s.size)))) := rfl
      have HX1 := Lib.hid (fun w' h => HMA.out (s.extract 0 i) w' (by rw [ByteArray.size_extract]; omega) h)
      have HX2 := Lib.hid (fun w' h => HMB.out (s.extract i s.size) w' (by rw [ByteArray.size_extract]; omega) h)
      obtain ⟨m1, HM1⟩ : ∃ m1, Hid (m1 = matchF p (s.extract 0 i)) := ⟨_, rfl⟩
      obtain ⟨m2, HM2⟩ : ∃ m2, Hid (m2 = matchF q (s.extract i s.size)) := ⟨_, rfl⟩
      rw [← HM1.out] at HA HX1
      rw [← HM2.out] at HA HX2
      clear HM1 HM2
      generalize hsg : anyF (fun j => matchF p (s.extract 0 j) && matchF q (s.extract j s.size)) i = sg at HA ⊢
      clear hsg
      cases sg with
      | true =>
        have HA2 : Hid (anyF (fun j => matchF p (s.extract 0 j) && matchF q (s.extract j s.size)) (i + 1) = true) := HA.out
        go_wp2_with fail
        go_roundg (s.size + 1 - (i + 1))
        case measure => omega
        case rel => exact ⟨i + 1, by omega, by rw [HA2.out], by go_num, HB2.out, Nat.le_refl _⟩
      | false =>
        cases m1 with
        | false =>
          have HA2 : Hid (anyF (fun j => matchF p (s.extract 0 j) && matchF q (s.extract j s.size)) (i + 1) = false) := HA.out
          go_wp2_with (go_at_call_of 19 v1; refine (HX1.out _ HB2.out).mono ?_; rintro e w4 ⟨rfl, hb4⟩)
          have HB4 := Lib.hid (HB2.out.trans (hb4.mono HB2.out.size))
          go_roundg (s.size + 1 - (i + 1))
          case measure => omega
          case rel => exact ⟨i + 1, by omega, by rw [HA2.out], by go_num, HB4.out, Nat.le_refl _⟩
        | true =>
          have HA2 : Hid (anyF (fun j => matchF p (s.extract 0 j) && matchF q (s.extract j s.size)) (i + 1) = m2) := HA.out
          go_wp2_with (first
            | (go_at_call_of 19 v1; refine (HX1.out _ HB2.out).mono ?_; rintro e w4 ⟨rfl, hb4⟩; have HB4 := Lib.hid (HB2.out.trans (hb4.mono HB2.out.size)))
            | (go_at_call_of 19 v2; refine (HX2.out _ HB4.out).mono ?_; rintro e w5 ⟨rfl, hb5⟩))
          have HB5 := Lib.hid (HB4.out.trans (hb5.mono HB4.out.size))
          go_roundg (s.size + 1 - (i + 1))
          case measure => omega
          case rel => exact ⟨i + 1, by omega, by rw [HA2.out], by go_num, HB5.out, Nat.le_refl _⟩
    · obtain rfl : i = s.size + 1 := by omega
      have hili : ¬ (((s.size + 1 : Nat)) : Int) ≤ (s.size : Int) := by omega
      have e1 := joins_math p q s
      rw [← e1]
      clear e1
      generalize hJ : matchF (p ++ q) s = want
      have HJ := Lib.hid hJ
      clear hJ
      have hzr := HB2.out.size
      have HP1 := Lib.hid (HR.out.below HB2.out (Nat.le_refl _))
      have HQ1 := Lib.hid (HR2.out.below HB2.out (Nat.le_refl _))
      go_upto_region 10 with (first
        | (refine wpList_appE rfl (.const (.slice none 0 0)) (.tmp 49) 26 37 rfl Try.underlying26 _ atC 34 48 atom_info rfl (by decide) atC_len atC_one wr.heap.size (.slice none 0 0) [] rfl OwnE.nil v1 p rfl HP1.out (by simp; omega) (by decide) (Nat.le_refl _) ?_; intro v4 w4 hown4 hbel4 hgrow4; have hb4 := hbel4 wr.heap.size wr (Nat.le_refl _) (Below.refl _ _); have HQ4 := Lib.hid (HQ1.out.below hb4 (Nat.le_refl _)); have HO4 := Lib.hid hown4; clear hown4 hgrow4 hbel4)
        | (refine wpList_appE rfl (.tmp 50) (.tmp 51) 26 37 rfl Try.underlying26 _ atC 34 48 atom_info rfl (by decide) atC_len atC_one wr.heap.size v4 p rfl HO4.out v2 q rfl HQ4.out (by omega) (by decide) hb4.size ?_; intro v5 w5 hown5 hbel5 hgrow5))
      have HO5 := Lib.hid (OwnE.rd (l := p ++ q) atC_len hown5)
      have HB5 := Lib.hid (HB2.out.trans ((hbel5 wr.heap.size wr (Nat.le_refl _) hb4).mono hzr))
      have HMC := Lib.hid (match_any (p ++ q) s v5 w5 HO5.out (by omega) (by rw [List.length_append]; omega))
      rw [HJ.out] at HMC
      have HF : Hid (∀ w', Below w3.heap.size w3 w' → Below w.heap.size w w') := fun w' h => HB.out.trans (h.mono HB.out.size)
      clear hown5 hbel5 hgrow5 HO4 HQ4 hb4
      go_wp2_with (first
        | (go_at_call 19; refine HMC.out.mono ?_; rintro e w6 ⟨rfl, hb6⟩; have HB6 := Lib.hid (HB5.out.trans (hb6.mono HB5.out.size)))
        | (go_at_call 12; refine (HK.out _).mono ?_; rintro e w7 ⟨rfl, hb7⟩))
      go_ret
      exact ⟨rfl, HF.out _ (HB6.out.trans (hb7.mono HB6.out.size))⟩

end Go.Proofs.Ytanpiidhcijfaaa
