
/-
  The statement PatternReverses: the walk.
-/
import Derived.Test.YtanpiidhcijfaaaLaw5B
import Derived.Test.YtanpiidhcijfaaaMatchC
import Derived.Test.YtanpiidhcijfaaaMathLang
import Derived.Test.YtanpiidhcijfaaaRevB
import Derived.Deep.RegionWith
namespace Go.Proofs.Ytanpiidhcijfaaa
open Go.RowKit

/-- The last k bytes of a string, backwards. -/
def rvS (s : ByteArray) (k : Nat) : ByteArray := ⟨((s.data.toList.drop (s.size - k)).reverse).toArray⟩
theorem rv_zero (s : ByteArray) : rvS s 0 = ⟨#[]⟩ := by
  unfold rvS
  rw [List.drop_eq_nil_of_le (by rw [Nat.sub_zero, Lib.size_eq]; exact Nat.le_refl _)]
  rfl
theorem rv_step (s : ByteArray) (k j : Nat) (h : j + k + 1 = s.size) : rvS s k ++ s.extract j (j + 1) = rvS s (k + 1) := by
  have hl : s.data.toList.length = s.size := (Lib.size_eq s).symm
  apply ByteArray.ext
  apply Array.toList_inj.1
  rw [data_append]
  unfold rvS
  have e1 : (s.extract j (j + 1)).data.toList = [s.data.toList[j]'(by omega)] := by
    rw [ByteArray.data_extract, Array.toList_extract, List.extract_eq_take_drop, show j + 1 - j = 1 by omega, List.drop_eq_getElem_cons (by omega)]
    rfl
  rw [e1]
  simp only
  rw [show s.size - (k + 1) = j by omega, show s.size - k = j + 1 by omega, List.drop_eq_getElem_cons (show j < s.data.toList.length by omega), List.reverse_cons]
theorem rv_len (s : ByteArray) (k : Nat) (hk : k ≤ s.size) : (rvS s k).size = k := by
  show ((s.data.toList.drop (s.size - k)).reverse).length = _
  rw [List.length_reverse, List.length_drop, ← Lib.size_eq]
  omega
theorem rv_size (s : ByteArray) : (rvS s s.size).size = s.size := by
  show ((s.data.toList.drop (s.size - s.size)).reverse).length = _
  rw [Nat.sub_self, List.drop_zero, List.length_reverse, ← Lib.size_eq]
theorem rv_bt (s : ByteArray) (k : Nat) (hk : k < s.size) : bt (rvS s s.size) k = bt s (s.size - 1 - k) := by
  have hl : s.data.toList.length = s.size := (Lib.size_eq s).symm
  unfold bt rvS
  simp only
  rw [Nat.sub_self, List.drop_zero, List.getD_eq_getElem?_getD, List.getD_eq_getElem?_getD, List.getElem?_reverse (by omega), hl]
theorem rv_match (p : List At) (s : ByteArray) : matchF p.reverse (rvS s s.size) = matchF p s := rev_match p (rv_size s) (rv_bt s)
theorem rv_prefix (p : List At) (s : ByteArray) : prefixF p.reverse (rvS s s.size) = suffixF p s := rev_prefix p (rv_size s) (rv_bt s)

set_option maxRecDepth 100000 in
set_option maxHeartbeats 4000000 in
theorem walk_PatternReverses (A : Option Addr) (n c : Nat) (l : List Int) (A2 : Option Addr) (n2 c2 : Nat) (m : List Int) (w : World) (h0 : n = l.length ∧ l.length ≤ maxLen ∧ RdE intC 1 w (.slice A n c) l ∧ ∀ x ∈ l, IntIn x)
    (h1 : n2 = m.length ∧ m.length ≤ maxLen ∧ RdE intC 1 w (.slice A2 n2 c2) m ∧ ∀ x ∈ m, IntIn x) :
    Calls Try.prog 10 #[.slice A n c, .slice A2 n2 c2] w fun e w' => e = .returned (.bool true) ∧ Below w.heap.size w w' := by
  obtain ⟨hn, hlm, hr, hin⟩ := h0
  obtain ⟨hn2, hlm2, hr2, hin2⟩ := h1
  subst hn hn2
  unfold maxLen at hlm hlm2
  have HK := Lib.hid known_any
  go_enter Try.func10, Try.ntmps10
  by_cases h60 : 60 < l.length
  · have h60i : (60 : Int) < (l.length : Int) := by omega
    go_wp2_with (go_at_call 12; refine (HK.out _).mono ?_; rintro e w1 ⟨rfl, hb1⟩)
    go_ret
    exact ⟨rfl, hb1⟩
  have h60i : ¬ (60 : Int) < (l.length : Int) := by omega
  have HM := Lib.hid (made_any A c l w hr hin)
  have HT := Lib.hid (fun w' (h : Below w.heap.size w w') => text_any A2 c2 m w' (hr2.below h (Nat.le_refl _)) hin2 hlm2)
  clear hr hr2 hin hin2
  go_upto_region 4 with (first
    | (go_at_call 20; refine HM.out.mono ?_; rintro e w1 ⟨v1, p, rfl, hp, hown, hb1, _⟩)
    | (go_at_call 21; refine (HT.out _ hb1).mono ?_; rintro e w2 ⟨s, hs, rfl, hb2⟩))
  have HR := Lib.hid ((OwnE.rd atC_len hown).below hb2 (Nat.le_refl _))
  have HB := Lib.hid (hb1.trans (hb2.mono hb1.size))
  clear hown hb1 hb2 HM HT
  go_wp2_with fail
  obtain ⟨W2, HW2⟩ : ∃ W2 : World, Hid (W2 = w2) := ⟨w2, rfl⟩
  go_loopg [7, 8] s.size (fun n tv iv wr => ∃ k : Nat, k ≤ s.size ∧ tv = .string (rvS s k) ∧ iv = .int .i64 ((s.size : Int) - 1 - k) ∧ w2 = wr ∧ s.size - k ≤ n)
  case atStart => exact ⟨0, by omega, by rw [rv_zero], by simp, rfl, by omega⟩
  case round =>
    obtain ⟨k, hk, rfl, rfl, rfl, hgk⟩ := hrel
    by_cases hlt : k < s.size
    · have h0 : (0 : Int) ≤ (s.size : Int) - 1 - (k : Int) := by omega
      obtain ⟨j, hj⟩ : ∃ j, j + k + 1 = s.size := ⟨s.size - 1 - k, by omega⟩
      have HS := Lib.hid (rv_step s k j hj)
      obtain ⟨i, hi⟩ : ∃ i : Int, i = (s.size : Int) - 1 - (k : Int) := ⟨_, rfl⟩
      rw [← hi] at h0 ⊢
      obtain rfl : i = (j : Int) := by omega
      clear hi
      have hjs : j + 1 ≤ s.size := by omega
      have hjsi : (j : Int) + 1 ≤ (s.size : Int) := by omega
      have htl : (rvS s k).size ≤ 24 := by rw [rv_len s k hk]; omega
      generalize rvS s k = t at HS htl
      go_wp2_with fail
      rw [HS.out]
      go_roundg (s.size - (k + 1))
      case measure => omega
      case rel => exact ⟨k + 1, by omega, rfl, by (show Value.int .i64 _ = Value.int .i64 _); congr 1; omega, rfl, Nat.le_refl _⟩
    · obtain rfl : k = s.size := by omega
      have h0 : ¬ (0 : Int) ≤ (s.size : Int) - 1 - (s.size : Int) := by omega
      have HM1 := Lib.hid (rv_match p s)
      have HP1 := Lib.hid (rv_prefix p s)
      have hts : (rvS s s.size).size ≤ 24 := by rw [rv_size]; omega
      generalize rvS s s.size = t at HM1 HP1 hts
      have HRV := Lib.hid (revp_any p v1 w2 HR.out (by omega))
      go_upto_region 10 with (go_at_call 26; refine HRV.out.mono ?_; rintro e w3 ⟨v3, rfl, hr3, hb3⟩)
      have HR3 := Lib.hid hr3
      obtain ⟨A3, c3, hv3, _⟩ := hr3.shape
      rw [List.length_reverse] at hv3
      subst hv3
      have HB3 := Lib.hid hb3
      clear hr3 hb3 HRV
      have HMR := Lib.hid (fun (w' : World) (h : Below w3.heap.size w3 w') => match_any p.reverse t _ w' (HR3.out.below h (Nat.le_refl _)) (by omega) (by simp; omega))
      have HPR := Lib.hid (fun (w' : World) (h : Below w3.heap.size w3 w') => prefix_any p.reverse t _ w' (HR3.out.below h (Nat.le_refl _)) (by omega) (by simp; omega))
      have HRB := Lib.hid (HR.out.below HB3.out (Nat.le_refl _))
      have HMP := Lib.hid (fun (w' : World) (h : Below w3.heap.size w3 w') => match_any p s v1 w' (HRB.out.below h (Nat.le_refl _)) (by omega) (by omega))
      have HSP := Lib.hid (fun (w' : World) (h : Below w3.heap.size w3 w') => suffix_any p s v1 w' (HRB.out.below h (Nat.le_refl _)) (by omega) (by omega))
      rw [HM1.out] at HMR
      rw [HP1.out] at HPR
      generalize matchF p s = b1 at HMR HMP
      generalize suffixF p s = b2 at HPR HSP
      have HF : Hid (∀ w', Below w3.heap.size w3 w' → Below w.heap.size w w') := fun w' h => (HB.out.trans (HB3.out.mono HB.out.size)).trans (h.mono (Nat.le_trans HB.out.size HB3.out.size))
      clear HM1 HP1 HR HR3 HRB HB HB3
      go_wp2_with (first
        | (go_at_call_of 19 (Value.string t); refine (HMR.out _ (Below.refl _ _)).mono ?_; rintro e w4 ⟨rfl, hb4⟩; have HB4 := Lib.hid hb4; clear hb4)
        | (go_at_call_of 19 (Value.string s); refine (HMP.out _ HB4.out).mono ?_; rintro e w5 ⟨rfl, hb5⟩; have HB5 := Lib.hid (HB4.out.trans (hb5.mono HB4.out.size)); clear hb5)
        | (go_at_call 24; refine (HPR.out _ HB5.out).mono ?_; rintro e w6 ⟨rfl, hb6⟩; have HB6 := Lib.hid (HB5.out.trans (hb6.mono HB5.out.size)); clear hb6)
        | (go_at_call 25; refine (HSP.out _ HB6.out).mono ?_; rintro e w7 ⟨rfl, hb7⟩; have HB7 := Lib.hid (HB6.out.trans (hb7.mono HB6.out.size)); clear hb7)
        | (go_at_call 12; refine (HK.out _).mono ?_; rintro e w8 ⟨rfl, hb8⟩))
      go_ret
      exact ⟨rfl, HF.out _ (HB7.out.trans (hb8.mono HB7.out.size))⟩

end Go.Proofs.Ytanpiidhcijfaaa
