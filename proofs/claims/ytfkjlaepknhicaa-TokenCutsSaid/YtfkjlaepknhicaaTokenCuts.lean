/-
  The walk of the law TokenCuts.
-/
import Derived.Test.YtfkjlaepknhicaaLaw11A
import Derived.Test.YtfkjlaepknhicaaMathCuts
namespace Go.Proofs.Ytfkjlaepknhicaa
open Go.RowKit

theorem spB_eq (c : UInt8) : spB c = false ↔ kindI (c.toNat : Int) ≠ 8 := by
  unfold spB
  rw [Ne, kindI_8]
  simp

theorem cuts_plain (s t : ByteArray) (hs : ∀ h : s.size - 1 < s.size, kindI ((s[s.size - 1]'h).toNat : Int) ≠ 8) (ht : ∀ h : 0 < t.size, kindI ((t[0]'h).toNat : Int) ≠ 8) :
    tokensL [⟨1, s ++ ⟨#[32]⟩ ++ t, 0⟩] = tokensL [⟨1, s, 0⟩] ++ [⟨8, ⟨#[32]⟩, 0⟩] ++ tokensL [⟨1, t, 0⟩] := by
  have e : ∀ x : ByteArray, tokensL [⟨1, x, 0⟩] = (cutL x.data.toList).map tkOf := fun x => by
    have : tokensL [⟨1, x, 0⟩] = (cutL x.data.toList).map tkOf ++ [] := rfl
    rw [this, List.append_nil]
  rw [e, e, e, data_append, data_append]
  have h1 : NoEnd s.data.toList := by
    intro x hx
    rw [List.getLast?_eq_getElem?] at hx
    obtain ⟨h, hx⟩ := List.getElem?_eq_some_iff.1 hx
    rw [spB_eq]
    have hl : s.size - 1 < s.size := by rw [Lib.size_eq]; exact h
    have := hs hl
    have h3 : s[s.size - 1]'hl = x := by
      rw [← hx]
      show s.data[s.size - 1] = s.data.toList[s.data.toList.length - 1]
      simp
    rwa [h3] at this
  have h2 : ∀ c r, t.data.toList = c :: r → spB c = false := by
    intro c r hc
    rw [spB_eq]
    have hl : 0 < t.size := by rw [Lib.size_eq, hc]; simp
    have := ht hl
    have h3 : t[0]'hl = c := by
      show t.data[0] = c
      have : t.data.toList[0]'(by rw [hc]; simp) = c := by simp [hc]
      rw [← this]; simp
    rwa [h3] at this
  have := cut_space t.data.toList h2 _ s.data.toList (Nat.le_refl _) h1
  rw [show s.data.toList ++ (ByteArray.mk #[32]).data.toList ++ t.data.toList = s.data.toList ++ 32 :: t.data.toList by simp, this]
  rw [List.map_append, List.map_append]
  rfl

theorem toks_len (s : ByteArray) (hs : s.size ≤ 400) : (tokensL [⟨1, s, 0⟩]).length ≤ 401 := by
  have := tokensL_length [⟨1, s, 0⟩]
  rw [show bytesOf [⟨1, s, 0⟩] = s.size + 0 from rfl] at this
  simp only [List.length_cons, List.length_nil] at this
  omega

set_option maxRecDepth 100000 in
set_option maxHeartbeats 8000000 in
theorem walk_TokenCuts (s t : ByteArray) (w : World) (hs : s.size ≤ maxLen) (ht : t.size ≤ maxLen) :
    Calls Try.prog 5 #[.string s, .string t] w fun e w' => e = .returned (.bool true) ∧ Below w.heap.size w w' := by
  unfold maxLen at hs ht
  by_cases h1 : 150 < s.size
  · go_enter Try.func5, Try.ntmps5
    go_wp2_with (go_at_call 11; refine (known_any _).mono ?_; rintro e w' ⟨rfl, hb'⟩)
    go_ret
    exact ⟨rfl, hb'⟩
  by_cases h2 : 150 < t.size
  · go_enter Try.func5, Try.ntmps5
    go_wp2_with (go_at_call 11; refine (known_any _).mono ?_; rintro e w' ⟨rfl, hb'⟩)
    go_ret
    exact ⟨rfl, hb'⟩
  have ne_of : ∀ x : ByteArray, 0 < x.size → (x.toList == []) = false := by
    intro x hx
    rw [beq_eq_false_iff_ne, toList_eq_data]
    intro h
    have := Lib.size_eq x
    rw [h] at this
    simp only [List.length_nil] at this
    omega
  have ne_of2 : ∀ x : ByteArray, 0 < x.size → x.toList.isEmpty = false := by
    intro x hx
    rw [List.isEmpty_eq_false_iff]
    simpa using ne_of x hx
  have nil_of : ∀ x : ByteArray, ¬ 0 < x.size → (x.toList == []) = true := by
    intro x hx
    have hz : x.data.toList = [] := List.eq_nil_of_length_eq_zero (by rw [← Lib.size_eq]; omega)
    rw [toList_eq_data, hz]; rfl
  have nil_of2 : ∀ x : ByteArray, ¬ 0 < x.size → x.toList.isEmpty = true := by
    intro x hx
    rw [List.isEmpty_iff]
    simpa using nil_of x hx
  have ct := fun (x : ByteArray) (hx : x.size ≤ 400) (v : Value) (w : World) (h : RdT w v [⟨1, x, 0⟩]) => tokens_any [⟨1, x, 0⟩] v w h (by simp) (by simp [bytesOf]; omega)
  have CT := Lib.hid ct
  have hst : (s ++ ⟨#[32]⟩ ++ t).size ≤ 400 := by
    rw [ByteArray.size_append, ByteArray.size_append]
    show s.size + 1 + t.size ≤ 400
    omega
  have L1 := toks_len s (by omega)
  have L2 := toks_len t (by omega)
  clear ct
  by_cases a1 : 0 < s.size
  · have e1 := ne_of s a1
    have e1' := ne_of2 s a1
    have b1 : (s[s.size - 1]'(by omega)).toNat < 256 := (s[s.size - 1]'(by omega)).toNat_lt
    by_cases k1 : kindI ((s[s.size - 1]'(by omega)).toNat : Int) = 8
    · have f1 : (kindI ((s[s.size - 1]'(by omega)).toNat : Int) == 8) = true := by simpa using k1
      go_enter Try.func5, Try.ntmps5
      go_wp2_with (first | (go_at_call 16; refine (kind_any _ _ (by omega) (by omega)).mono ?_; rintro e w' ⟨rfl, rfl⟩) | (go_at_call 11; refine (known_any _).mono ?_; rintro e w' ⟨rfl, hb'⟩))
      go_ret
      exact ⟨rfl, hb'⟩
    · have f1 : (kindI ((s[s.size - 1]'(by omega)).toNat : Int) == 8) = false := by simpa using k1
      by_cases a2 : 0 < t.size
      · have e2 := ne_of t a2
        have e2' := ne_of2 t a2
        have b2 : (t[0]'a2).toNat < 256 := (t[0]'a2).toNat_lt
        by_cases k2 : kindI ((t[0]'a2).toNat : Int) = 8
        · have f2 : (kindI ((t[0]'a2).toNat : Int) == 8) = true := by simpa using k2
          go_enter Try.func5, Try.ntmps5
          go_wp2_with (first | (go_at_call 16; refine (kind_any _ _ (by omega) (by omega)).mono ?_; rintro e w' ⟨rfl, rfl⟩) | (go_at_call 11; refine (known_any _).mono ?_; rintro e w' ⟨rfl, hb'⟩))
          go_ret
          exact ⟨rfl, hb'⟩
        · have f2 : (kindI ((t[0]'a2).toNat : Int) == 8) = false := by simpa using k2
          have HP := Lib.hid (cuts_plain s t (fun h => k1) (fun h => k2))
          go_enter Try.func5, Try.ntmps5
          go_wp2_with (go_at_call 16; refine (kind_any _ _ (by omega) (by omega)).mono ?_; rintro e w' ⟨rfl, rfl⟩)
          refine (CT.out s (by omega) _ _ (by exact RdT.one w ⟨1, s, 0⟩ _)).mono ?_
          rintro e w1 ⟨v1, rfl, hown1, hb1⟩
          have hz1 := hb1.size
          have hbw1 : Below w.heap.size w w1 := ((Below.refl _ _).alloc (Nat.le_refl _) _).trans (hb1.mono (by simp))
          have HO1 := Lib.hid (own_base hown1 (Nat.zero_le _))
          obtain ⟨A1, c1, hv1⟩ := own_shape hown1
          subst hv1
          clear hown1
          go_wp2_with fail
          refine (CT.out t (by omega) _ _ (by exact RdT.one w1 ⟨1, t, 0⟩ _)).mono ?_
          rintro e w2 ⟨v2, rfl, hown2, hb2⟩
          have hz2 := hb2.size
          have HO2 := Lib.hid (own_base hown2 (Nat.zero_le _))
          obtain ⟨A2, c2, hv2⟩ := own_shape hown2
          subst hv2
          clear hown2
          go_wp2_with fail
          refine (CT.out (s ++ ⟨#[32]⟩ ++ t) hst _ _ (by exact RdT.one w2 ⟨1, s ++ ⟨#[32]⟩ ++ t, 0⟩ _)).mono ?_
          rintro e w3 ⟨v3, rfl, hown3, hb3⟩
          have hz3 := hb3.size
          have HO3 := Lib.hid (own_base hown3 (Nat.zero_le _))
          obtain ⟨A3, c3, hv3⟩ := own_shape hown3
          subst hv3
          clear hown3
          have HA1 := Lib.hid (RdE.below (OwnE.rd tkC_three HO1.out) (((Below.refl _ _).alloc (Nat.le_refl _) _).trans (hb2.mono (by simp))) (Nat.le_refl _))
          have HA1' := Lib.hid (RdE.below HA1.out (((Below.refl _ _).alloc (Nat.le_refl _) _).trans (hb3.mono (by simp))) (Nat.le_refl _))
          have HA2 := Lib.hid (RdE.below (OwnE.rd tkC_three HO2.out) (((Below.refl _ _).alloc (Nat.le_refl _) _).trans (hb3.mono (by simp))) (Nat.le_refl _))
          have HA3 := Lib.hid (OwnE.rd tkC_three HO3.out)
          have d3 : Below w.heap.size w w3 := (hbw1.trans (((Below.refl w.heap.size w1).alloc hbw1.size _).trans (hb2.mono (by have := hbw1.size; simp; omega)))).trans
            (((Below.refl w.heap.size w2).alloc (by have := hbw1.size; simp at hz2; omega) _).trans (hb3.mono (by have := hbw1.size; simp at hz2 ⊢; omega)))
          clear hb1 hb2 hb3 HO1 HO2 HO3 HA1 hbw1 hz1 hz2 hz3
          have L3 : (tokensL [⟨1, s ++ ⟨#[32]⟩ ++ t, 0⟩]).length ≤ 401 := toks_len _ hst
          generalize tokensL [⟨1, s, 0⟩] = ls at *
          generalize tokensL [⟨1, t, 0⟩] = lt at *
          generalize tokensL [⟨1, s ++ ⟨#[32]⟩ ++ t, 0⟩] = lst at *
          have c3 : Below w3.heap.size w3 w3 := Below.refl _ _
          go_wp2_with (at_builtin; first
            | (refine wpList_appE rfl (.const (.slice none 0 0)) (.tmp 55) 29 33 rfl Try.underlying29 _ tkC 3 32 tok_info rfl (by decide) tkC_three tkC_one w3.heap.size _ ([] : List Tk) rfl OwnE.nil _ ls rfl (by exact HA1'.out) (by simp; omega) (by decide) (Nat.le_refl _) ?_
               intro v4 w4 hown4 hbel4 hg4
               have hb4 := hbel4 _ _ (Nat.le_refl _) c3
               have hz4 := hb4.size
               rw [List.nil_append] at hown4
               have HO4 := Lib.hid hown4
               obtain ⟨A4, d4, hv4⟩ := own_shape hown4
               subst hv4
               clear hown4 hbel4 hg4)
            | (refine wpList_app1 rfl (.tmp 56) (.tmp 58) 29 33 rfl Try.underlying29 _ 3 32 tok_info rfl (by decide) w3.heap.size _ ls.length (ls.flatMap tkC) rfl (by exact World.ownsRow.alloc HO4.out _) ⟨w4.heap.size, 0, none⟩ 1 (tkC ⟨8, ⟨#[32]⟩, 0⟩) rfl rfl (by exact cells_new _ _ _) (tkC_one _) (by omega) (by decide) (by simp; omega) ?_
               intro g5 cap5 w5 hown5 hg5 hbel5 hgr5
               have hb5 := hbel5 _ _ (Nat.le_refl _) (hb4.alloc hz4 _)
               have hz5 := hb5.size
               have HO5 := Lib.hid (OwnE.snoc (f := tkC) (l := ls) (x := ⟨8, ⟨#[32]⟩, 0⟩) hown5)
               have HA2' := Lib.hid (RdE.below HA2.out hb5 (Nat.le_refl _))
               clear hown5 hbel5 hgr5)
            | go_must (refine wpList_appE rfl (.tmp 59) (.tmp 60) 29 33 rfl Try.underlying29 _ tkC 3 32 tok_info rfl (by decide) tkC_three tkC_one w3.heap.size _ (ls ++ [(⟨8, ⟨#[32]⟩, 0⟩ : Tk)]) rfl (by exact HO5.out) _ lt rfl (by exact HA2'.out) (by simp; omega) (by decide) hz5 ?_
                       intro v6 w6 hown6 hbel6 hg6
                       have hb6 := hbel6 _ _ (Nat.le_refl _) hb5
                       have hz6 := hb6.size
                       have HO6 := Lib.hid hown6
                       obtain ⟨A6, d6, hv6⟩ := own_shape hown6
                       subst hv6
                       clear hown6 hbel6 hg6))
          have hl6 : (ls ++ [(⟨8, ⟨#[32]⟩, 0⟩ : Tk)] ++ lt).length = lst.length := by rw [← HP.out]
          have HA6 := Lib.hid (OwnE.rd tkC_three HO6.out)
          rw [← HP.out] at HA6
          have HA3' := Lib.hid (RdE.below HA3.out hb6 (Nat.le_refl _))
          have hl7 : lst.length = ls.length + (lt.length + 1) := by rw [← hl6, List.length_append, List.length_append]; simp; omega
          have HA7 : Hid (RdE tkC 3 w6 (Value.slice A6 (ls.length + (lt.length + 1)) d6) lst) := by rw [← hl7]; exact HA6
          have hl8 : lst.length ≤ 1000000 := by omega
          have hz6' := d3.size
          refine (same_yes lst _ _ w6 HA3'.out HA7.out hl8).mono ?_
          rintro e w7 ⟨rfl, nq, rfl⟩
          clear hl6 hl7 HA6
          go_wp2_with (go_at_call 11; refine (known_any _).mono ?_; rintro e w' ⟨rfl, hb'⟩)
          go_ret
          exact ⟨rfl, (below_drewN (d3.trans (hb6.mono hz6')) nq).trans (hb'.mono (by exact Nat.le_trans hz6' hz6))⟩
      · have e2 := nil_of t a2
        have e2' := nil_of2 t a2
        have HP := Lib.hid (cuts_plain s t (fun h => k1) (fun h => by omega))
        go_enter Try.func5, Try.ntmps5
        go_wp2_with (go_at_call 16; refine (kind_any _ _ (by omega) (by omega)).mono ?_; rintro e w' ⟨rfl, rfl⟩)
        refine (CT.out s (by omega) _ _ (by exact RdT.one w ⟨1, s, 0⟩ _)).mono ?_
        rintro e w1 ⟨v1, rfl, hown1, hb1⟩
        have hz1 := hb1.size
        have hbw1 : Below w.heap.size w w1 := ((Below.refl _ _).alloc (Nat.le_refl _) _).trans (hb1.mono (by simp))
        have HO1 := Lib.hid (own_base hown1 (Nat.zero_le _))
        obtain ⟨A1, c1, hv1⟩ := own_shape hown1
        subst hv1
        clear hown1
        go_wp2_with fail
        refine (CT.out t (by omega) _ _ (by exact RdT.one w1 ⟨1, t, 0⟩ _)).mono ?_
        rintro e w2 ⟨v2, rfl, hown2, hb2⟩
        have hz2 := hb2.size
        have HO2 := Lib.hid (own_base hown2 (Nat.zero_le _))
        obtain ⟨A2, c2, hv2⟩ := own_shape hown2
        subst hv2
        clear hown2
        go_wp2_with fail
        refine (CT.out (s ++ ⟨#[32]⟩ ++ t) hst _ _ (by exact RdT.one w2 ⟨1, s ++ ⟨#[32]⟩ ++ t, 0⟩ _)).mono ?_
        rintro e w3 ⟨v3, rfl, hown3, hb3⟩
        have hz3 := hb3.size
        have HO3 := Lib.hid (own_base hown3 (Nat.zero_le _))
        obtain ⟨A3, c3, hv3⟩ := own_shape hown3
        subst hv3
        clear hown3
        have HA1 := Lib.hid (RdE.below (OwnE.rd tkC_three HO1.out) (((Below.refl _ _).alloc (Nat.le_refl _) _).trans (hb2.mono (by simp))) (Nat.le_refl _))
        have HA1' := Lib.hid (RdE.below HA1.out (((Below.refl _ _).alloc (Nat.le_refl _) _).trans (hb3.mono (by simp))) (Nat.le_refl _))
        have HA2 := Lib.hid (RdE.below (OwnE.rd tkC_three HO2.out) (((Below.refl _ _).alloc (Nat.le_refl _) _).trans (hb3.mono (by simp))) (Nat.le_refl _))
        have HA3 := Lib.hid (OwnE.rd tkC_three HO3.out)
        have d3 : Below w.heap.size w w3 := (hbw1.trans (((Below.refl w.heap.size w1).alloc hbw1.size _).trans (hb2.mono (by have := hbw1.size; simp; omega)))).trans
          (((Below.refl w.heap.size w2).alloc (by have := hbw1.size; simp at hz2; omega) _).trans (hb3.mono (by have := hbw1.size; simp at hz2 ⊢; omega)))
        clear hb1 hb2 hb3 HO1 HO2 HO3 HA1 hbw1 hz1 hz2 hz3
        have L3 : (tokensL [⟨1, s ++ ⟨#[32]⟩ ++ t, 0⟩]).length ≤ 401 := toks_len _ hst
        generalize tokensL [⟨1, s, 0⟩] = ls at *
        generalize tokensL [⟨1, t, 0⟩] = lt at *
        generalize tokensL [⟨1, s ++ ⟨#[32]⟩ ++ t, 0⟩] = lst at *
        have c3 : Below w3.heap.size w3 w3 := Below.refl _ _
        go_wp2_with (at_builtin; first
          | (refine wpList_appE rfl (.const (.slice none 0 0)) (.tmp 55) 29 33 rfl Try.underlying29 _ tkC 3 32 tok_info rfl (by decide) tkC_three tkC_one w3.heap.size _ ([] : List Tk) rfl OwnE.nil _ ls rfl (by exact HA1'.out) (by simp; omega) (by decide) (Nat.le_refl _) ?_
             intro v4 w4 hown4 hbel4 hg4
             have hb4 := hbel4 _ _ (Nat.le_refl _) c3
             have hz4 := hb4.size
             rw [List.nil_append] at hown4
             have HO4 := Lib.hid hown4
             obtain ⟨A4, d4, hv4⟩ := own_shape hown4
             subst hv4
             clear hown4 hbel4 hg4)
          | (refine wpList_app1 rfl (.tmp 56) (.tmp 58) 29 33 rfl Try.underlying29 _ 3 32 tok_info rfl (by decide) w3.heap.size _ ls.length (ls.flatMap tkC) rfl (by exact World.ownsRow.alloc HO4.out _) ⟨w4.heap.size, 0, none⟩ 1 (tkC ⟨8, ⟨#[32]⟩, 0⟩) rfl rfl (by exact cells_new _ _ _) (tkC_one _) (by omega) (by decide) (by simp; omega) ?_
             intro g5 cap5 w5 hown5 hg5 hbel5 hgr5
             have hb5 := hbel5 _ _ (Nat.le_refl _) (hb4.alloc hz4 _)
             have hz5 := hb5.size
             have HO5 := Lib.hid (OwnE.snoc (f := tkC) (l := ls) (x := ⟨8, ⟨#[32]⟩, 0⟩) hown5)
             have HA2' := Lib.hid (RdE.below HA2.out hb5 (Nat.le_refl _))
             clear hown5 hbel5 hgr5)
          | go_must (refine wpList_appE rfl (.tmp 59) (.tmp 60) 29 33 rfl Try.underlying29 _ tkC 3 32 tok_info rfl (by decide) tkC_three tkC_one w3.heap.size _ (ls ++ [(⟨8, ⟨#[32]⟩, 0⟩ : Tk)]) rfl (by exact HO5.out) _ lt rfl (by exact HA2'.out) (by simp; omega) (by decide) hz5 ?_
                     intro v6 w6 hown6 hbel6 hg6
                     have hb6 := hbel6 _ _ (Nat.le_refl _) hb5
                     have hz6 := hb6.size
                     have HO6 := Lib.hid hown6
                     obtain ⟨A6, d6, hv6⟩ := own_shape hown6
                     subst hv6
                     clear hown6 hbel6 hg6))
        have hl6 : (ls ++ [(⟨8, ⟨#[32]⟩, 0⟩ : Tk)] ++ lt).length = lst.length := by rw [← HP.out]
        have HA6 := Lib.hid (OwnE.rd tkC_three HO6.out)
        rw [← HP.out] at HA6
        have HA3' := Lib.hid (RdE.below HA3.out hb6 (Nat.le_refl _))
        have hl7 : lst.length = ls.length + (lt.length + 1) := by rw [← hl6, List.length_append, List.length_append]; simp; omega
        have HA7 : Hid (RdE tkC 3 w6 (Value.slice A6 (ls.length + (lt.length + 1)) d6) lst) := by rw [← hl7]; exact HA6
        have hl8 : lst.length ≤ 1000000 := by omega
        have hz6' := d3.size
        refine (same_yes lst _ _ w6 HA3'.out HA7.out hl8).mono ?_
        rintro e w7 ⟨rfl, nq, rfl⟩
        clear hl6 hl7 HA6
        go_wp2_with (go_at_call 11; refine (known_any _).mono ?_; rintro e w' ⟨rfl, hb'⟩)
        go_ret
        exact ⟨rfl, (below_drewN (d3.trans (hb6.mono hz6')) nq).trans (hb'.mono (by exact Nat.le_trans hz6' hz6))⟩
  · have e1 := nil_of s a1
    have e1' := nil_of2 s a1
    by_cases a2 : 0 < t.size
    · have e2 := ne_of t a2
      have e2' := ne_of2 t a2
      have b2 : (t[0]'a2).toNat < 256 := (t[0]'a2).toNat_lt
      by_cases k2 : kindI ((t[0]'a2).toNat : Int) = 8
      · have f2 : (kindI ((t[0]'a2).toNat : Int) == 8) = true := by simpa using k2
        go_enter Try.func5, Try.ntmps5
        go_wp2_with (first | (go_at_call 16; refine (kind_any _ _ (by omega) (by omega)).mono ?_; rintro e w' ⟨rfl, rfl⟩) | (go_at_call 11; refine (known_any _).mono ?_; rintro e w' ⟨rfl, hb'⟩))
        go_ret
        exact ⟨rfl, hb'⟩
      · have f2 : (kindI ((t[0]'a2).toNat : Int) == 8) = false := by simpa using k2
        have HP := Lib.hid (cuts_plain s t (fun h => by omega) (fun h => k2))
        go_enter Try.func5, Try.ntmps5
        go_wp2_with (go_at_call 16; refine (kind_any _ _ (by omega) (by omega)).mono ?_; rintro e w' ⟨rfl, rfl⟩)
        refine (CT.out s (by omega) _ _ (by exact RdT.one w ⟨1, s, 0⟩ _)).mono ?_
        rintro e w1 ⟨v1, rfl, hown1, hb1⟩
        have hz1 := hb1.size
        have hbw1 : Below w.heap.size w w1 := ((Below.refl _ _).alloc (Nat.le_refl _) _).trans (hb1.mono (by simp))
        have HO1 := Lib.hid (own_base hown1 (Nat.zero_le _))
        obtain ⟨A1, c1, hv1⟩ := own_shape hown1
        subst hv1
        clear hown1
        go_wp2_with fail
        refine (CT.out t (by omega) _ _ (by exact RdT.one w1 ⟨1, t, 0⟩ _)).mono ?_
        rintro e w2 ⟨v2, rfl, hown2, hb2⟩
        have hz2 := hb2.size
        have HO2 := Lib.hid (own_base hown2 (Nat.zero_le _))
        obtain ⟨A2, c2, hv2⟩ := own_shape hown2
        subst hv2
        clear hown2
        go_wp2_with fail
        refine (CT.out (s ++ ⟨#[32]⟩ ++ t) hst _ _ (by exact RdT.one w2 ⟨1, s ++ ⟨#[32]⟩ ++ t, 0⟩ _)).mono ?_
        rintro e w3 ⟨v3, rfl, hown3, hb3⟩
        have hz3 := hb3.size
        have HO3 := Lib.hid (own_base hown3 (Nat.zero_le _))
        obtain ⟨A3, c3, hv3⟩ := own_shape hown3
        subst hv3
        clear hown3
        have HA1 := Lib.hid (RdE.below (OwnE.rd tkC_three HO1.out) (((Below.refl _ _).alloc (Nat.le_refl _) _).trans (hb2.mono (by simp))) (Nat.le_refl _))
        have HA1' := Lib.hid (RdE.below HA1.out (((Below.refl _ _).alloc (Nat.le_refl _) _).trans (hb3.mono (by simp))) (Nat.le_refl _))
        have HA2 := Lib.hid (RdE.below (OwnE.rd tkC_three HO2.out) (((Below.refl _ _).alloc (Nat.le_refl _) _).trans (hb3.mono (by simp))) (Nat.le_refl _))
        have HA3 := Lib.hid (OwnE.rd tkC_three HO3.out)
        have d3 : Below w.heap.size w w3 := (hbw1.trans (((Below.refl w.heap.size w1).alloc hbw1.size _).trans (hb2.mono (by have := hbw1.size; simp; omega)))).trans
          (((Below.refl w.heap.size w2).alloc (by have := hbw1.size; simp at hz2; omega) _).trans (hb3.mono (by have := hbw1.size; simp at hz2 ⊢; omega)))
        clear hb1 hb2 hb3 HO1 HO2 HO3 HA1 hbw1 hz1 hz2 hz3
        have L3 : (tokensL [⟨1, s ++ ⟨#[32]⟩ ++ t, 0⟩]).length ≤ 401 := toks_len _ hst
        generalize tokensL [⟨1, s, 0⟩] = ls at *
        generalize tokensL [⟨1, t, 0⟩] = lt at *
        generalize tokensL [⟨1, s ++ ⟨#[32]⟩ ++ t, 0⟩] = lst at *
        have c3 : Below w3.heap.size w3 w3 := Below.refl _ _
        go_wp2_with (at_builtin; first
          | (refine wpList_appE rfl (.const (.slice none 0 0)) (.tmp 55) 29 33 rfl Try.underlying29 _ tkC 3 32 tok_info rfl (by decide) tkC_three tkC_one w3.heap.size _ ([] : List Tk) rfl OwnE.nil _ ls rfl (by exact HA1'.out) (by simp; omega) (by decide) (Nat.le_refl _) ?_
             intro v4 w4 hown4 hbel4 hg4
             have hb4 := hbel4 _ _ (Nat.le_refl _) c3
             have hz4 := hb4.size
             rw [List.nil_append] at hown4
             have HO4 := Lib.hid hown4
             obtain ⟨A4, d4, hv4⟩ := own_shape hown4
             subst hv4
             clear hown4 hbel4 hg4)
          | (refine wpList_app1 rfl (.tmp 56) (.tmp 58) 29 33 rfl Try.underlying29 _ 3 32 tok_info rfl (by decide) w3.heap.size _ ls.length (ls.flatMap tkC) rfl (by exact World.ownsRow.alloc HO4.out _) ⟨w4.heap.size, 0, none⟩ 1 (tkC ⟨8, ⟨#[32]⟩, 0⟩) rfl rfl (by exact cells_new _ _ _) (tkC_one _) (by omega) (by decide) (by simp; omega) ?_
             intro g5 cap5 w5 hown5 hg5 hbel5 hgr5
             have hb5 := hbel5 _ _ (Nat.le_refl _) (hb4.alloc hz4 _)
             have hz5 := hb5.size
             have HO5 := Lib.hid (OwnE.snoc (f := tkC) (l := ls) (x := ⟨8, ⟨#[32]⟩, 0⟩) hown5)
             have HA2' := Lib.hid (RdE.below HA2.out hb5 (Nat.le_refl _))
             clear hown5 hbel5 hgr5)
          | go_must (refine wpList_appE rfl (.tmp 59) (.tmp 60) 29 33 rfl Try.underlying29 _ tkC 3 32 tok_info rfl (by decide) tkC_three tkC_one w3.heap.size _ (ls ++ [(⟨8, ⟨#[32]⟩, 0⟩ : Tk)]) rfl (by exact HO5.out) _ lt rfl (by exact HA2'.out) (by simp; omega) (by decide) hz5 ?_
                     intro v6 w6 hown6 hbel6 hg6
                     have hb6 := hbel6 _ _ (Nat.le_refl _) hb5
                     have hz6 := hb6.size
                     have HO6 := Lib.hid hown6
                     obtain ⟨A6, d6, hv6⟩ := own_shape hown6
                     subst hv6
                     clear hown6 hbel6 hg6))
        have hl6 : (ls ++ [(⟨8, ⟨#[32]⟩, 0⟩ : Tk)] ++ lt).length = lst.length := by rw [← HP.out]
        have HA6 := Lib.hid (OwnE.rd tkC_three HO6.out)
        rw [← HP.out] at HA6
        have HA3' := Lib.hid (RdE.below HA3.out hb6 (Nat.le_refl _))
        have hl7 : lst.length = ls.length + (lt.length + 1) := by rw [← hl6, List.length_append, List.length_append]; simp; omega
        have HA7 : Hid (RdE tkC 3 w6 (Value.slice A6 (ls.length + (lt.length + 1)) d6) lst) := by rw [← hl7]; exact HA6
        have hl8 : lst.length ≤ 1000000 := by omega
        have hz6' := d3.size
        refine (same_yes lst _ _ w6 HA3'.out HA7.out hl8).mono ?_
        rintro e w7 ⟨rfl, nq, rfl⟩
        clear hl6 hl7 HA6
        go_wp2_with (go_at_call 11; refine (known_any _).mono ?_; rintro e w' ⟨rfl, hb'⟩)
        go_ret
        exact ⟨rfl, (below_drewN (d3.trans (hb6.mono hz6')) nq).trans (hb'.mono (by exact Nat.le_trans hz6' hz6))⟩
    · have e2 := nil_of t a2
      have e2' := nil_of2 t a2
      have HP := Lib.hid (cuts_plain s t (fun h => by omega) (fun h => by omega))
      go_enter Try.func5, Try.ntmps5
      go_wp2_with (go_at_call 16; refine (kind_any _ _ (by omega) (by omega)).mono ?_; rintro e w' ⟨rfl, rfl⟩)
      refine (CT.out s (by omega) _ _ (by exact RdT.one w ⟨1, s, 0⟩ _)).mono ?_
      rintro e w1 ⟨v1, rfl, hown1, hb1⟩
      have hz1 := hb1.size
      have hbw1 : Below w.heap.size w w1 := ((Below.refl _ _).alloc (Nat.le_refl _) _).trans (hb1.mono (by simp))
      have HO1 := Lib.hid (own_base hown1 (Nat.zero_le _))
      obtain ⟨A1, c1, hv1⟩ := own_shape hown1
      subst hv1
      clear hown1
      go_wp2_with fail
      refine (CT.out t (by omega) _ _ (by exact RdT.one w1 ⟨1, t, 0⟩ _)).mono ?_
      rintro e w2 ⟨v2, rfl, hown2, hb2⟩
      have hz2 := hb2.size
      have HO2 := Lib.hid (own_base hown2 (Nat.zero_le _))
      obtain ⟨A2, c2, hv2⟩ := own_shape hown2
      subst hv2
      clear hown2
      go_wp2_with fail
      refine (CT.out (s ++ ⟨#[32]⟩ ++ t) hst _ _ (by exact RdT.one w2 ⟨1, s ++ ⟨#[32]⟩ ++ t, 0⟩ _)).mono ?_
      rintro e w3 ⟨v3, rfl, hown3, hb3⟩
      have hz3 := hb3.size
      have HO3 := Lib.hid (own_base hown3 (Nat.zero_le _))
      obtain ⟨A3, c3, hv3⟩ := own_shape hown3
      subst hv3
      clear hown3
      have HA1 := Lib.hid (RdE.below (OwnE.rd tkC_three HO1.out) (((Below.refl _ _).alloc (Nat.le_refl _) _).trans (hb2.mono (by simp))) (Nat.le_refl _))
      have HA1' := Lib.hid (RdE.below HA1.out (((Below.refl _ _).alloc (Nat.le_refl _) _).trans (hb3.mono (by simp))) (Nat.le_refl _))
      have HA2 := Lib.hid (RdE.below (OwnE.rd tkC_three HO2.out) (((Below.refl _ _).alloc (Nat.le_refl _) _).trans (hb3.mono (by simp))) (Nat.le_refl _))
      have HA3 := Lib.hid (OwnE.rd tkC_three HO3.out)
      have d3 : Below w.heap.size w w3 := (hbw1.trans (((Below.refl w.heap.size w1).alloc hbw1.size _).trans (hb2.mono (by have := hbw1.size; simp; omega)))).trans
        (((Below.refl w.heap.size w2).alloc (by have := hbw1.size; simp at hz2; omega) _).trans (hb3.mono (by have := hbw1.size; simp at hz2 ⊢; omega)))
      clear hb1 hb2 hb3 HO1 HO2 HO3 HA1 hbw1 hz1 hz2 hz3
      have L3 : (tokensL [⟨1, s ++ ⟨#[32]⟩ ++ t, 0⟩]).length ≤ 401 := toks_len _ hst
      generalize tokensL [⟨1, s, 0⟩] = ls at *
      generalize tokensL [⟨1, t, 0⟩] = lt at *
      generalize tokensL [⟨1, s ++ ⟨#[32]⟩ ++ t, 0⟩] = lst at *
      have c3 : Below w3.heap.size w3 w3 := Below.refl _ _
      go_wp2_with (at_builtin; first
        | (refine wpList_appE rfl (.const (.slice none 0 0)) (.tmp 55) 29 33 rfl Try.underlying29 _ tkC 3 32 tok_info rfl (by decide) tkC_three tkC_one w3.heap.size _ ([] : List Tk) rfl OwnE.nil _ ls rfl (by exact HA1'.out) (by simp; omega) (by decide) (Nat.le_refl _) ?_
           intro v4 w4 hown4 hbel4 hg4
           have hb4 := hbel4 _ _ (Nat.le_refl _) c3
           have hz4 := hb4.size
           rw [List.nil_append] at hown4
           have HO4 := Lib.hid hown4
           obtain ⟨A4, d4, hv4⟩ := own_shape hown4
           subst hv4
           clear hown4 hbel4 hg4)
        | (refine wpList_app1 rfl (.tmp 56) (.tmp 58) 29 33 rfl Try.underlying29 _ 3 32 tok_info rfl (by decide) w3.heap.size _ ls.length (ls.flatMap tkC) rfl (by exact World.ownsRow.alloc HO4.out _) ⟨w4.heap.size, 0, none⟩ 1 (tkC ⟨8, ⟨#[32]⟩, 0⟩) rfl rfl (by exact cells_new _ _ _) (tkC_one _) (by omega) (by decide) (by simp; omega) ?_
           intro g5 cap5 w5 hown5 hg5 hbel5 hgr5
           have hb5 := hbel5 _ _ (Nat.le_refl _) (hb4.alloc hz4 _)
           have hz5 := hb5.size
           have HO5 := Lib.hid (OwnE.snoc (f := tkC) (l := ls) (x := ⟨8, ⟨#[32]⟩, 0⟩) hown5)
           have HA2' := Lib.hid (RdE.below HA2.out hb5 (Nat.le_refl _))
           clear hown5 hbel5 hgr5)
        | go_must (refine wpList_appE rfl (.tmp 59) (.tmp 60) 29 33 rfl Try.underlying29 _ tkC 3 32 tok_info rfl (by decide) tkC_three tkC_one w3.heap.size _ (ls ++ [(⟨8, ⟨#[32]⟩, 0⟩ : Tk)]) rfl (by exact HO5.out) _ lt rfl (by exact HA2'.out) (by simp; omega) (by decide) hz5 ?_
                   intro v6 w6 hown6 hbel6 hg6
                   have hb6 := hbel6 _ _ (Nat.le_refl _) hb5
                   have hz6 := hb6.size
                   have HO6 := Lib.hid hown6
                   obtain ⟨A6, d6, hv6⟩ := own_shape hown6
                   subst hv6
                   clear hown6 hbel6 hg6))
      have hl6 : (ls ++ [(⟨8, ⟨#[32]⟩, 0⟩ : Tk)] ++ lt).length = lst.length := by rw [← HP.out]
      have HA6 := Lib.hid (OwnE.rd tkC_three HO6.out)
      rw [← HP.out] at HA6
      have HA3' := Lib.hid (RdE.below HA3.out hb6 (Nat.le_refl _))
      have hl7 : lst.length = ls.length + (lt.length + 1) := by rw [← hl6, List.length_append, List.length_append]; simp; omega
      have HA7 : Hid (RdE tkC 3 w6 (Value.slice A6 (ls.length + (lt.length + 1)) d6) lst) := by rw [← hl7]; exact HA6
      have hl8 : lst.length ≤ 1000000 := by omega
      have hz6' := d3.size
      refine (same_yes lst _ _ w6 HA3'.out HA7.out hl8).mono ?_
      rintro e w7 ⟨rfl, nq, rfl⟩
      clear hl6 hl7 HA6
      go_wp2_with (go_at_call 11; refine (known_any _).mono ?_; rintro e w' ⟨rfl, hb'⟩)
      go_ret
      exact ⟨rfl, (below_drewN (d3.trans (hb6.mono hz6')) nq).trans (hb'.mono (by exact Nat.le_trans hz6' hz6))⟩

end Go.Proofs.Ytfkjlaepknhicaa
