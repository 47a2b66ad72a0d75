
/-
  The statement SegmentRanges: the walk.
-/
import Derived.Test.YtpboaadjbkaidaaDoorPackR6
import Derived.Test.YtpboaadjbkaidaaDoorPackR7
import Derived.Test.YtpboaadjbkaidaaDoorPackR1
set_option linter.unusedVariables false
set_option linter.unusedSimpArgs false
namespace Go.Proofs.YtpboaadjbkaidaaDoor
set_option maxRecDepth 100000
open Go.RowKit

theorem lenI_inR : ∀ f : List Tk, (∀ x ∈ f, TkInS x) → lenI f ≤ f.length * 140737488351232
  | [], _ => Nat.le_refl _
  | x :: f, h => by
    have h1 := (h x (by simp)).2
    have h2 := lenI_inR f (fun y hy => h y (by simp [hy]))
    rw [lenI, List.length_cons, Nat.succ_mul]
    have h3 : wdI x ≤ 140737488351232 := by
      unfold wdI
      split
      · exact h1
      · decide
    omega
theorem lenI_bytesR : ∀ f : List Tk, lenI f ≤ bytesOf f + f.length
  | [] => Nat.le_refl _
  | x :: f => by
    have h2 := lenI_bytesR f
    have e : bytesOf (x :: f) = x.t.size + bytesOf f := by
      have := bytesOf_append [x] f
      rw [bytesOf_one] at this
      exact this
    rw [lenI, List.length_cons, e]
    have h3 : wdI x ≤ x.t.size + 1 := by
      unfold wdI
      split <;> omega
    omega
/-- What a made fragment keeps to. -/
theorem madeR_ok (l : List Int) (n : Nat) (hn : n ≤ 8) : (fragL l 0 n).f.length ≤ 8 ∧ lenI (fragL l 0 n).f ≤ 200 := by
  have hb := nextN_bd l 0 ((n : Int) + 1) (by omega)
  have h := fragGo_ok l (nextN l 0 ((n : Int) + 1)).toNat ⟨[], [], 0, 0 + 1⟩ 0 (fok_start 1 (Nat.le_refl _))
  have h' : FOK (fragL l 0 n) (0 + (nextN l 0 ((n : Int) + 1)).toNat) := h
  have h1 := h'.len
  have h2 := h'.bytes
  have h3 := lenI_bytesR (fragL l 0 n).f
  exact ⟨by omega, by omega⟩
theorem sent_small : RuSmall [sentR] := ⟨by decide, fun r hr => by rw [List.mem_singleton.1 hr]; exact ⟨by decide, by decide⟩⟩

set_option maxRecDepth 100000 in
set_option maxHeartbeats 16000000 in
theorem walk_SegmentRanges (A : Option Addr) (n c : Nat) (l : List Int) (A2 : Option Addr) (n2 c2 : Nat) (m : List Int) (A3 : Option Addr) (n3 c3 : Nat) (f : List Tk) (w : World) (hg : Got w)
    (h0 : n = l.length ∧ l.length ≤ maxLen ∧ RdE intC 1 w (.slice A n c) l ∧ ∀ x ∈ l, IntIn x)
    (h1 : n2 = m.length ∧ m.length ≤ maxLen ∧ RdE intC 1 w (.slice A2 n2 c2) m ∧ ∀ x ∈ m, IntIn x)
    (h2 : n3 = f.length ∧ f.length ≤ maxLen ∧ RdT w (.slice A3 n3 c3) f ∧ ∀ x ∈ f, TkInS x) :
    Calls Tryd.prog 12 #[.slice A n c, .slice A2 n2 c2, .slice A3 n3 c3] w fun e w' => e = .returned (.bool true) ∧ Below w.heap.size w w' := by
  obtain ⟨rfl, hll, hrl, hli⟩ := h0
  obtain ⟨rfl, hml, hrm, hmi⟩ := h1
  obtain ⟨rfl, hfl, hrf, hfi⟩ := h2
  unfold maxLen at hfl hll hml
  have HK := Lib.hid (fun (w' : World) (h : Below w.heap.size w w') => known6_any w' (got_below hg h))
  by_cases h60 : 60 < l.length
  · have h60i : (60 : Int) < (l.length : Int) := by omega
    go_enter Tryd.func12, Tryd.ntmps12
    go_wp2_with (first
      | (go_at_call 17; refine (HK.out _ (Below.refl _ _)).mono ?_; rintro e w1 ⟨rfl, hb1⟩))
    go_ret
    exact ⟨rfl, hb1⟩
  have h60i : ¬ (60 : Int) < (l.length : Int) := by omega
  by_cases h100 : 100 < m.length
  · have h100i : (100 : Int) < (m.length : Int) := by omega
    go_enter Tryd.func12, Tryd.ntmps12
    go_wp2_with (first
      | (go_at_call 17; refine (HK.out _ (Below.refl _ _)).mono ?_; rintro e w1 ⟨rfl, hb1⟩))
    go_ret
    exact ⟨rfl, hb1⟩
  have h100i : ¬ (100 : Int) < (m.length : Int) := by omega
  by_cases h12 : 12 < f.length
  · have h12i : (12 : Int) < (f.length : Int) := by omega
    go_enter Tryd.func12, Tryd.ntmps12
    go_wp2_with (first
      | (go_at_call 17; refine (HK.out _ (Below.refl _ _)).mono ?_; rintro e w1 ⟨rfl, hb1⟩))
    go_ret
    exact ⟨rfl, hb1⟩
  have h12i : ¬ (12 : Int) < (f.length : Int) := by omega
  have hlen := lenI_inR f hfi
  have hlb : lenI f ≤ 1000000000000000000 := by
    have : f.length * 140737488351232 ≤ 12 * 140737488351232 := Nat.mul_le_mul_right _ (by omega)
    omega
  have HLN := Lib.hid (rlength_any f _ w hrf hlb (by omega))
  by_cases hf60 : 60 < lenI f
  · have hf60i : (60 : Int) < (lenI f : Int) := by omega
    generalize lenI f = q at HLN hf60i
    go_enter Tryd.func12, Tryd.ntmps12
    go_wp2_with (first
      | (go_at_call 34; refine HLN.out.mono ?_; rintro e w1 ⟨rfl, rfl⟩)
      | (go_at_call 17; refine (HK.out _ (Below.refl _ _)).mono ?_; rintro e w1 ⟨rfl, hb1⟩))
    go_ret
    exact ⟨rfl, hb1⟩
  have hf60i : ¬ (60 : Int) < (lenI f : Int) := by omega
  obtain ⟨hgl, hgw⟩ := madeR_ok m 8 (by decide)
  have hN : Nums (w.alloc (.cells #[.slice A2 m.length c2, .int .i64 0] 62)) w.heap.size m 0 :=
    ⟨_, w, Array.getElem?_push_size, hrm, Nat.le_refl _, fun k hk => Below.heap_alloc _ _ _ hk, hmi⟩
  have HF := Lib.hid (fragment_any' m w.heap.size 8 _ hN (by decide))
  generalize (fragL m 0 8).f = g at HF hgl hgw
  have HRM := Lib.hid (fun (u : World) (h : Below w.heap.size w u) => rules6_any A c l u (hrl.below h (Nat.le_refl _)) hli)
  have hsm := rulesM_small l
  generalize (rulesM l 0 5).1 = rs at HRM hsm
  have HRF := Lib.hid (fun (u : World) (h : Below w.heap.size w u) => RdE.below hrf h (Nat.le_refl _))
  have hfq : lenI f ≤ 60 := by omega
  have HG1 := Lib.hid (fun (v vg : Value) (u : World) (hr : RdRu u v rs) (ht : RdT u vg g) => ranges_any rs v g vg u hr hsm ht (by omega) (by omega))
  have HG2 := Lib.hid (fun (v vg : Value) (u : World) (hr : RdRu u v rs) (ht : RdT u vg g) => rranges_any rs v g vg u hr hsm ht (by omega) (by omega))
  have HS1 := Lib.hid (fun (v vg : Value) (u : World) (hr : RdRu u v [sentR]) (ht : RdT u vg g) => ranges_any [sentR] v g vg u hr sent_small ht (by omega) (by omega))
  have HS2 := Lib.hid (fun (v vg : Value) (u : World) (hr : RdRu u v [sentR]) (ht : RdT u vg g) => rranges_any [sentR] v g vg u hr sent_small ht (by omega) (by omega))
  have HF1 := Lib.hid (fun (v vg : Value) (u : World) (hr : RdRu u v rs) (ht : RdT u vg f) => ranges_any rs v f vg u hr hsm ht (by omega) (by omega))
  have HF2 := Lib.hid (fun (v vg : Value) (u : World) (hr : RdRu u v rs) (ht : RdT u vg f) => rranges_any rs v f vg u hr hsm ht (by omega) (by omega))
  have hl1 : (rangesF rs g).length ≤ 1000000 := ranges_len rs g (by omega)
  have hl2 : (rangesF [sentR] g).length ≤ 1000000 := ranges_len [sentR] g (by omega)
  have hl3 : (rangesF rs f).length ≤ 1000000 := ranges_len rs f (by omega)
  generalize rangesF rs g = r1 at HG1 HG2 hl1
  generalize rangesF [sentR] g = r2 at HS1 HS2 hl2
  generalize rangesF rs f = r3 at HF1 HF2 hl3
  generalize lenI f = q at HLN hf60i
  clear hN hrf hrl hrm hli hmi hfi hlen hlb hf60 h60 h100 h12 hfq hsm
  go_enter Tryd.func12, Tryd.ntmps12
  go_upto_region 4 with (first
    | (go_at_call 34; refine HLN.out.mono ?_; rintro e w1 ⟨rfl, rfl⟩)
    | (go_at_call 35; refine HF.out.mono ?_; rintro e w2 ⟨v2, rfl, ho2, hb2⟩))
  obtain ⟨Ag, cg, hv2⟩ := own_shape ho2
  subst hv2
  have HB0 : Hid (Below w.heap.size w w2) := Lib.hid (((Below.refl w.heap.size w).alloc (Nat.le_refl _) (.cells #[.slice A2 m.length c2, .int .i64 0] 62)).trans (hb2.below (Nat.le_refl _) (by simp)))
  have HR2 := Lib.hid (OwnE.rd tkC_three ho2)
  have HRG := Lib.hid (fun (u : World) (h : Below w2.heap.size w2 u) => RdE.below HR2.out h (Nat.le_refl _))
  clear ho2 hb2 HF HLN HR2
  have HBW := Lib.hid (fun (u : World) (h : Below w2.heap.size w2 u) => HB0.out.trans (h.mono HB0.out.size))
  have HC0 := Lib.hid (Below.refl w2.heap.size w2)
  go_wp2_with fail
  refine (HRM.out _ (HBW.out _ HC0.out)).mono ?_
  rintro e u1 ⟨v1, rfl, hr1, hb1⟩
  have HC1 := Lib.hid (HC0.out.trans (hb1.mono HC0.out.size))
  have HR1 := Lib.hid hr1
  clear hr1 hb1
  go_wp2_with fail
  refine (HG1.out _ _ _ HR1.out (HRG.out _ HC1.out)).mono ?_
  rintro e u2 ⟨v2, rfl, ho2, hb2⟩
  have HC2 := Lib.hid (HC1.out.trans (hb2.mono HC1.out.size))
  have HO2 := Lib.hid (OwnE.rd rangeC_two ho2)
  have HB2 := Lib.hid hb2
  clear ho2 hb2
  go_wp2_with fail
  refine (HRM.out _ (HBW.out _ HC2.out)).mono ?_
  rintro e u3 ⟨v3, rfl, hr3, hb3⟩
  have HC3 := Lib.hid (HC2.out.trans (hb3.mono HC2.out.size))
  have HR3 := Lib.hid hr3
  have HO3 := Lib.hid (HO2.out.below hb3 (Nat.le_refl _))
  clear hr3 hb3
  go_wp2_with fail
  refine (HG2.out _ _ _ HR3.out (HRG.out _ HC3.out)).mono ?_
  rintro e u4 ⟨v4, rfl, ho4, hb4⟩
  have HC4 := Lib.hid (HC3.out.trans (hb4.mono HC3.out.size))
  have HO4 := Lib.hid (OwnE.rd rangeC_two ho4)
  have HB4 := Lib.hid hb4
  have HP4 := Lib.hid (HO3.out.below hb4 (Nat.le_refl _))
  clear ho4 hb4
  go_wp2_with fail
  refine (sameRanges_any _ _ _ _ HP4.out HO4.out hl1).mono ?_
  rintro e u5 ⟨rfl, hb5⟩
  have HC10 := Lib.hid (HC4.out.trans (hb5.mono HC4.out.size))
  clear hb5
  go_wp2_with fail
  refine (sent_any _).mono ?_
  rintro e u11 ⟨v11, rfl, hr11, hb11⟩
  have HC11 := Lib.hid (HC10.out.trans (hb11.mono HC10.out.size))
  have HR11 := Lib.hid hr11
  clear hr11 hb11
  go_wp2_with fail
  refine (HS1.out _ _ _ HR11.out (HRG.out _ HC11.out)).mono ?_
  rintro e u12 ⟨v12, rfl, ho12, hb12⟩
  have HC12 := Lib.hid (HC11.out.trans (hb12.mono HC11.out.size))
  have HO12 := Lib.hid (OwnE.rd rangeC_two ho12)
  have HB12 := Lib.hid hb12
  clear ho12 hb12
  go_wp2_with fail
  refine (sent_any _).mono ?_
  rintro e u13 ⟨v13, rfl, hr13, hb13⟩
  have HC13 := Lib.hid (HC12.out.trans (hb13.mono HC12.out.size))
  have HR13 := Lib.hid hr13
  have HO13 := Lib.hid (HO12.out.below hb13 (Nat.le_refl _))
  clear hr13 hb13
  go_wp2_with fail
  refine (HS2.out _ _ _ HR13.out (HRG.out _ HC13.out)).mono ?_
  rintro e u14 ⟨v14, rfl, ho14, hb14⟩
  have HC14 := Lib.hid (HC13.out.trans (hb14.mono HC13.out.size))
  have HO14 := Lib.hid (OwnE.rd rangeC_two ho14)
  have HB14 := Lib.hid hb14
  have HP14 := Lib.hid (HO13.out.below hb14 (Nat.le_refl _))
  clear ho14 hb14
  go_wp2_with fail
  refine (sameRanges_any _ _ _ _ HP14.out HO14.out hl2).mono ?_
  rintro e u15 ⟨rfl, hb15⟩
  have HC20 := Lib.hid (HC14.out.trans (hb15.mono HC14.out.size))
  clear hb15
  go_wp2_with fail
  refine (HRM.out _ (HBW.out _ HC20.out)).mono ?_
  rintro e u21 ⟨v21, rfl, hr21, hb21⟩
  have HC21 := Lib.hid (HC20.out.trans (hb21.mono HC20.out.size))
  have HR21 := Lib.hid hr21
  clear hr21 hb21
  go_wp2_with fail
  refine (HF1.out _ _ _ HR21.out (HRF.out _ (HBW.out _ HC21.out))).mono ?_
  rintro e u22 ⟨v22, rfl, ho22, hb22⟩
  have HC22 := Lib.hid (HC21.out.trans (hb22.mono HC21.out.size))
  have HO22 := Lib.hid (OwnE.rd rangeC_two ho22)
  have HB22 := Lib.hid hb22
  clear ho22 hb22
  go_wp2_with fail
  refine (HRM.out _ (HBW.out _ HC22.out)).mono ?_
  rintro e u23 ⟨v23, rfl, hr23, hb23⟩
  have HC23 := Lib.hid (HC22.out.trans (hb23.mono HC22.out.size))
  have HR23 := Lib.hid hr23
  have HO23 := Lib.hid (HO22.out.below hb23 (Nat.le_refl _))
  clear hr23 hb23
  go_wp2_with fail
  refine (HF2.out _ _ _ HR23.out (HRF.out _ (HBW.out _ HC23.out))).mono ?_
  rintro e u24 ⟨v24, rfl, ho24, hb24⟩
  have HC24 := Lib.hid (HC23.out.trans (hb24.mono HC23.out.size))
  have HO24 := Lib.hid (OwnE.rd rangeC_two ho24)
  have HB24 := Lib.hid hb24
  have HP24 := Lib.hid (HO23.out.below hb24 (Nat.le_refl _))
  clear ho24 hb24
  go_wp2_with fail
  refine (sameRanges_any _ _ _ _ HP24.out HO24.out hl3).mono ?_
  rintro e u25 ⟨rfl, hb25⟩
  have HC30 := Lib.hid (HC24.out.trans (hb25.mono HC24.out.size))
  clear hb25
  go_wp2_with fail
  refine (HK.out _ (HBW.out _ HC30.out)).mono ?_
  rintro e u31 ⟨rfl, hb31⟩
  go_wp2_with fail
  go_ret
  exact ⟨rfl, (HBW.out _ HC30.out).trans (hb31.mono (HBW.out _ HC30.out).size)⟩

end Go.Proofs.YtpboaadjbkaidaaDoor
