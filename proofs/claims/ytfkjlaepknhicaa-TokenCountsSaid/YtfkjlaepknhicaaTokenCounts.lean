/-
  The walk of the law TokenCounts.
-/
import Derived.Test.YtfkjlaepknhicaaLaw11A
import Derived.Test.YtfkjlaepknhicaaOpenTok
namespace Go.Proofs.Ytfkjlaepknhicaa
open Go.RowKit

/-- What the opening of an argument that is a list of tokens tells. -/
abbrev ArgT (w : World) (A : Option Addr) (n c : Nat) (l : List Tk) : Prop := n = l.length ∧ l.length ≤ maxLen ∧ RdT w (.slice A n c) l ∧ ∀ x ∈ l, TkIn x

set_option maxRecDepth 100000 in
set_option maxHeartbeats 8000000 in
theorem walk_TokenCounts (A : Option Addr) (n c : Nat) (l : List Tk) (A' : Option Addr) (n' c' : Nat) (m : List Tk) (w : World) (h0 : ArgT w A n c l) (h0' : ArgT w A' n' c' m) :
    Calls Try.prog 6 #[.slice A n c, .slice A' n' c'] w fun e w' => e = .returned (.bool true) ∧ Below w.heap.size w w' := by
  obtain ⟨rfl, hl, hrl, _⟩ := h0
  obtain ⟨rfl, hm, hrm, _⟩ := h0'
  unfold maxLen at hl hm
  by_cases h1 : 80 < l.length
  · go_enter Try.func6, Try.ntmps6
    go_wp2_with (go_at_call 11; refine (known_any _).mono ?_; rintro e w' ⟨rfl, hb'⟩)
    go_ret
    exact ⟨rfl, hb'⟩
  by_cases h2 : 80 < m.length
  · go_enter Try.func6, Try.ntmps6
    go_wp2_with (go_at_call 11; refine (known_any _).mono ?_; rintro e w' ⟨rfl, hb'⟩)
    go_ret
    exact ⟨rfl, hb'⟩
  have cl := fun v w h => total_any l v w h (by omega)
  have cm := fun v w h => total_any m v w h (by omega)
  have ca := fun v w h => total_any (l ++ m) v w h (by rw [List.length_append]; omega)
  have rl := fun v w h => rtotal_any l v w h (by omega)
  have kl := fun v w h => count_any l v w h (by omega)
  have km := fun v w h => count_any m v w h (by omega)
  have ka := fun v w h => count_any (l ++ m) v w h (by rw [List.length_append]; omega)
  have ql := fun v w h => rcount_any l v w h (by omega)
  rw [totalL_append] at ca
  rw [countL_append] at ka
  have b1 := totalL_bd l
  have b2 := totalL_bd m
  have b3 := countL_le l
  have b4 := countL_le m
  generalize totalL l = TL at cl ca rl b1
  generalize totalL m = TM at cm ca b2
  generalize countL l = CL at kl ka ql b3
  generalize countL m = CM at km ka b4
  have HCL := Lib.hid cl; have HCM := Lib.hid cm; have HCA := Lib.hid ca; have HRL := Lib.hid rl
  have HKL := Lib.hid kl; have HKM := Lib.hid km; have HKA := Lib.hid ka; have HQL := Lib.hid ql
  have HL := Lib.hid hrl; have HM := Lib.hid hrm
  clear cl cm ca rl kl km ka ql hrl hrm
  have e1 : IntKind.i64.wrap (TL + TM) = TL + TM := by rw [IntKind.wrap_i64]; omega
  have e2 : IntKind.i64.wrap ((CL : Int) + CM) = ((CL + CM : Nat) : Int) := by rw [IntKind.wrap_i64]; omega
  have e3 : ((TL + TM) == (TL + TM)) = true := by simp
  go_enter Try.func6, Try.ntmps6
  go_wp2_with (at_builtin; first
    | (refine wpList_appE rfl (.const (.slice none 0 0)) (.tmp 15) 29 33 rfl Try.underlying29 _ tkC 3 32 tok_info rfl (by decide) tkC_three tkC_one w.heap.size _ ([] : List Tk) rfl OwnE.nil _ l rfl (by exact HL.out) (by simp; omega) (by decide) (Nat.le_refl _) ?_
       intro v1 w1 hown1 hbel1 hg1
       have hb1 := hbel1 _ _ (Nat.le_refl _) (Below.refl _ _)
       have hz1 := hb1.size
       rw [List.nil_append] at hown1
       have HO1 := Lib.hid hown1
       obtain ⟨A1, d1, hv1⟩ := own_shape hown1
       subst hv1
       clear hown1 hbel1 hg1
       have HM1 := Lib.hid (RdE.below HM.out hb1 (Nat.le_refl _)))
    | go_must (refine wpList_appE rfl (.tmp 16) (.tmp 17) 29 33 rfl Try.underlying29 _ tkC 3 32 tok_info rfl (by decide) tkC_three tkC_one w.heap.size _ l rfl HO1.out _ m rfl (by exact HM1.out) (by omega) (by decide) hz1 ?_
               intro v2 w2 hown2 hbel2 hg2
               have d0 : Below w.heap.size w w2 := hbel2 _ _ (Nat.le_refl _) hb1
               have c0 : Below w2.heap.size w2 w2 := Below.refl _ _
               have HA := Lib.hid (OwnE.rd tkC_three hown2)
               obtain ⟨A2, d2, hv2⟩ := own_shape hown2
               subst hv2
               clear hown2 hbel2 hg2 HO1 HM1 hb1 hz1))
  have ha : (l ++ m).length = l.length + m.length := List.length_append
  rw [ha] at HA

  refine (HCL.out _ _ (by exact RdE.below HL.out d0 (Nat.le_refl _))).mono ?_
  rintro e x0 ⟨rfl, hx⟩
  have d1 := d0.trans (hx.mono d0.size)
  have c1 := c0.trans (hx.mono c0.size)
  clear hx d0 c0
  go_wp2_with fail
  refine (HRL.out _ _ (by exact RdE.below HL.out d1 (Nat.le_refl _))).mono ?_
  rintro e x1 ⟨rfl, hx⟩
  have d2 := d1.trans (hx.mono d1.size)
  have c2 := c1.trans (hx.mono c1.size)
  clear hx d1 c1
  go_wp2_with fail
  refine (HKL.out _ _ (by exact RdE.below HL.out d2 (Nat.le_refl _))).mono ?_
  rintro e x2 ⟨rfl, hx⟩
  have d3 := d2.trans (hx.mono d2.size)
  have c3 := c2.trans (hx.mono c2.size)
  clear hx d2 c2
  go_wp2_with fail
  refine (HQL.out _ _ (by exact RdE.below HL.out d3 (Nat.le_refl _))).mono ?_
  rintro e x3 ⟨rfl, hx⟩
  have d4 := d3.trans (hx.mono d3.size)
  have c4 := c3.trans (hx.mono c3.size)
  clear hx d3 c3
  go_wp2_with fail
  refine (HCA.out _ _ (by exact RdE.below HA.out c4 (Nat.le_refl _))).mono ?_
  rintro e x4 ⟨rfl, hx⟩
  have d5 := d4.trans (hx.mono d4.size)
  have c5 := c4.trans (hx.mono c4.size)
  clear hx d4 c4
  go_wp2_with fail
  refine (HCL.out _ _ (by exact RdE.below HL.out d5 (Nat.le_refl _))).mono ?_
  rintro e x5 ⟨rfl, hx⟩
  have d6 := d5.trans (hx.mono d5.size)
  have c6 := c5.trans (hx.mono c5.size)
  clear hx d5 c5
  go_wp2_with fail
  refine (HCM.out _ _ (by exact RdE.below HM.out d6 (Nat.le_refl _))).mono ?_
  rintro e x6 ⟨rfl, hx⟩
  have d7 := d6.trans (hx.mono d6.size)
  have c7 := c6.trans (hx.mono c6.size)
  clear hx d6 c6
  go_wp2_with fail
  refine (HKA.out _ _ (by exact RdE.below HA.out c7 (Nat.le_refl _))).mono ?_
  rintro e x7 ⟨rfl, hx⟩
  have d8 := d7.trans (hx.mono d7.size)
  have c8 := c7.trans (hx.mono c7.size)
  clear hx d7 c7
  go_wp2_with fail
  refine (HKL.out _ _ (by exact RdE.below HL.out d8 (Nat.le_refl _))).mono ?_
  rintro e x8 ⟨rfl, hx⟩
  have d9 := d8.trans (hx.mono d8.size)
  have c9 := c8.trans (hx.mono c8.size)
  clear hx d8 c8
  go_wp2_with fail
  refine (HKM.out _ _ (by exact RdE.below HM.out d9 (Nat.le_refl _))).mono ?_
  rintro e x9 ⟨rfl, hx⟩
  have d10 := d9.trans (hx.mono d9.size)
  have c10 := c9.trans (hx.mono c9.size)
  clear hx d9 c9
  go_wp2_with (go_at_call 11; refine (known_any _).mono ?_; rintro e w' ⟨rfl, hb'⟩)
  go_ret
  exact ⟨ret_bool (by simp), d10.trans (hb'.mono d10.size)⟩

end Go.Proofs.Ytfkjlaepknhicaa
