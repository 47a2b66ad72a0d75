
/-
  The walk of the law DistanceMoves.
-/
import Derived.Test.YteccphcophjhpaaLaw12B
import Derived.Test.YteccphcophjhpaaMoveA
import Derived.Test.YteccphcophjhpaaMakeA
import Derived.Test.YteccphcophjhpaaOpenTok
import Derived.Deep.RegionWith
namespace Go.Proofs.Yteccphcophjhpaa
open Go.RowKit

theorem br_d : TkD brT := ⟨by unfold maxLen; decide, by decide, by decide⟩
theorem ins_d {l : List Tk} {i : Nat} (h : ∀ x ∈ l, TkD x) : ∀ x ∈ insL l i brT, TkD x := fun x hx => by
  rcases insL_mem hx with hx | rfl
  · exact h x hx
  · exact br_d

set_option maxRecDepth 100000 in
set_option maxHeartbeats 8000000 in
theorem walk_DistanceMoves (A0 : Option Addr) (n0 c0 : Nat) (l : List Int) (at0 to0 : Int) (w : World) (h0 : n0 = l.length ∧ l.length ≤ maxLen ∧ RdE intC 1 w (.slice A0 n0 c0) l ∧ ∀ x ∈ l, IntIn x) (h1' : (Lit.int .i64 at0).wf = true) (h2' : (Lit.int .i64 to0).wf = true) :
    Calls Try.prog 6 #[.slice A0 n0 c0, .int .i64 at0, .int .i64 to0] w fun e w' => e = .returned (.bool true) ∧ Below w.heap.size w w' := by
  have h1 : IntIn at0 := wf_i64 h1'
  have h2 : IntIn to0 := wf_i64 h2'
  clear h1' h2'
  obtain ⟨rfl, hl0, hr0, hi0⟩ := h0
  have HI0 := Lib.hid hi0
  unfold maxLen at hl0
  clear hi0
  by_cases k0 : 60 < l.length
  · go_enter Try.func6, Try.ntmps6
    go_wp2_with (go_at_call 12; refine (known12_any _).mono ?_; rintro e w' ⟨rfl, hb'⟩)
    go_ret
    exact ⟨rfl, hb'⟩
  have M0 := mk_made l 14
  have HM0 := Lib.hid (made12_any l 14 _ w hr0 HI0.out (by decide))
  generalize mkT l 14 = a at M0 HM0
  have L0 := M0.len
  have D0 := M0.toD
  obtain ⟨wl, HWL⟩ : ∃ wl, Hid (noTags a = wl) := ⟨_, rfl⟩
  have hwl : wl.length ≤ a.length := by rw [← HWL.out]; exact noTags_length a
  have WT : Weighty wl := by rw [← HWL.out]; exact noTags_weighty M0.wt
  have WD : ∀ x ∈ wl, TkD x := fun x hx => D0 x (by rw [← HWL.out] at hx; exact (List.mem_filter.1 hx).1)
  have hn1 : (1 : Int) ≤ (wl.length : Int) + 1 := by omega
  obtain ⟨i, hi⟩ : ∃ i : Nat, at0 % ((wl.length : Int) + 1) = (i : Int) := ⟨(at0 % ((wl.length : Int) + 1)).toNat, by have := Int.emod_nonneg at0 (show ((wl.length : Int) + 1) ≠ 0 by omega); omega⟩
  obtain ⟨k, hk⟩ : ∃ k : Nat, to0 % ((wl.length : Int) + 1) = (k : Int) := ⟨(to0 % ((wl.length : Int) + 1)).toNat, by have := Int.emod_nonneg to0 (show ((wl.length : Int) + 1) ≠ 0 by omega); omega⟩
  have hil : i ≤ wl.length := by have := Int.emod_lt_of_pos at0 (show 0 < ((wl.length : Int) + 1) by omega); omega
  have hkl : k ≤ wl.length := by have := Int.emod_lt_of_pos to0 (show 0 < ((wl.length : Int) + 1) by omega); omega
  have PI := fun w => place_any at0 ((wl.length : Int) + 1) w h1 hn1 (by omega)
  have PK := fun w => place_any to0 ((wl.length : Int) + 1) w h2 hn1 (by omega)
  rw [hi] at PI
  rw [hk] at PK
  have HPI := Lib.hid PI
  have HPK := Lib.hid PK
  have LI := insL_length wl i brT hil
  have LK := insL_length wl k brT hkl
  have c1 := fun (v u : Value) (w : World) (h : RdT w v (insL wl i brT)) (h' : RdT w u wl) => dist_any (insL wl i brT) wl v u w h h' (by omega) (by omega) (ins_d WD) WD
  rw [dist_more wl i WT] at c1
  have c2 := fun (v u : Value) (w : World) (h : RdT w v wl) (h' : RdT w u (insL wl k brT)) => dist_any wl (insL wl k brT) v u w h h' (by omega) (by omega) WD (ins_d WD)
  rw [distI_symm, dist_more wl k WT] at c2
  have c0 := fun (v u : Value) (w : World) (h : RdT w v (insL wl i brT)) (h' : RdT w u (insL wl k brT)) => dist_any (insL wl i brT) (insL wl k brT) v u w h h' (by omega) (by omega) (ins_d WD) (ins_d WD)
  have C0 := Lib.hid c0
  have C1 := Lib.hid c1
  have C2 := Lib.hid c2
  have hD2 := dist_moved wl i k WT
  have hD0 := distI_nonneg (insL wl i brT) (insL wl k brT)
  have HDE : Hid (i = k → distI (insL wl i brT) (insL wl k brT) = 0) := fun h => by rw [h]; exact distI_self _
  generalize distI (insL wl i brT) (insL wl k brT) = D at C0 hD2 hD0 HDE
  have ew : IntKind.i64.wrap ((wl.length : Int) + 1) = (wl.length : Int) + 1 := by rw [IntKind.wrap_i64]; omega
  have HW : Hid (∀ (j : Nat) (v : Value) (w : World) (B : Nat), OwnE 23 tkC 3 w B v wl → j ≤ wl.length → Calls Try.prog 21 #[v, .int .i64 j, .agg #[.int .i64 4, .string ⟨#[98, 114]⟩, .int .i64 7]] w (RetOwn 23 tkC 3 w (insL wl j brT))) := fun j v w B h hj => with_any wl j brT v w B h hj (by omega)
  clear PI PK c0 c1 c2 WD WT D0 hi hk LI LK hn1 h1 h2
  obtain ⟨ia, HIA⟩ : ∃ ia, Hid (insL wl i brT = ia) := ⟨_, rfl⟩
  obtain ⟨ka, HKA⟩ : ∃ ka, Hid (insL wl k brT = ka) := ⟨_, rfl⟩
  rw [HIA.out, HKA.out] at C0
  rw [HIA.out] at C1
  rw [HKA.out] at C2
  have hla : a.length ≤ 14 := L0
  clear M0 L0 hr0
  go_enter Try.func6, Try.ntmps6
  go_wp2_with fail
  refine (HM0.out).mono ?_
  rintro e w1 ⟨v1, rfl, hown, hb1⟩
  have RA := Lib.hid (OwnE.rd tkC_three hown)
  obtain ⟨A1, c1, hv⟩ := own_shape hown
  subst hv
  have B1 := Lib.hid hb1
  have z1 := hb1.size
  clear hown hb1 HM0
  go_wp2_with fail
  go_loopw [7, 23] (fun ov iv wr => ∃ q : Nat, q ≤ a.length ∧ iv = .int .i64 q ∧ Hid (OwnE 23 tkC 3 wr w1.heap.size ov (noTags (a.take q))) ∧ Hid (Below w1.heap.size w1 wr)) (fun _ iv _ => a.length - (intOf iv).toNat)
  case atStart => exact ⟨0, by omega, rfl, OwnE.nil, Below.refl _ _⟩
  case round =>
    obtain ⟨q, hq, rfl, HO, HB⟩ := hrel
    have hsz := HB.out.size
    by_cases hql : q < a.length
    · obtain ⟨bb, ob, rfl, hbl, q1, q2, q3⟩ := RdT.at_ (RdE.below RA.out HB.out (Nat.le_refl _)) q hql
      have HT := Lib.hid (noTags_take a q hql)
      have hlen := noTags_length (a.take q)
      rw [List.length_take] at hlen
      generalize a[q] = x at q1 q2 q3 HT
      obtain ⟨xk, xt, xd⟩ := x
      simp only at q1 q2 q3
      have hl0 : wr.heap.size < (wr.alloc (.cells #[.int .i64 xk, .string xt, .int .i64 xd] 23)).heap.size := by simp
      have HXB : Hid ((wr.alloc (.cells #[.int .i64 xk, .string xt, .int .i64 xd] 23)).heap[wr.heap.size]? = some (.cells #[.int .i64 xk, .string xt, .int .i64 xd] 23)) := Array.getElem?_push_size
      generalize noTags (a.take q) = pre at HO HT hlen
      go_wp2_with fail
      refine (risTag_any xk xd xt _).mono ?_
      rintro e w2 ⟨rfl, hb2⟩
      have HX2 := Lib.hid ((hb2.block wr.heap.size hl0).trans HXB.out)
      have HO2 := Lib.hid (own_below (World.ownsRow.alloc HO.out (.cells #[.int .i64 xk, .string xt, .int .i64 xd] 23)) hb2 (Nat.le_refl _))
      have HB2 := Lib.hid ((HB.out.alloc hsz (.cells #[.int .i64 xk, .string xt, .int .i64 xd] 23)).trans (hb2.mono (by simp; omega)))
      have hz2 := HB2.out.size
      have hlx : wr.heap.size < w2.heap.size := Nat.lt_of_lt_of_le hl0 hb2.size
      clear hb2 HXB hl0 q1 q2 q3
      obtain ⟨x0, x1, x2⟩ := tbox HX2.out
      by_cases ht : isTagB ⟨xk, xt, xd⟩ = true
      · have HE := Lib.hid (HT.out.trans (by rw [if_pos ht, List.append_nil]))
        go_wp2_with fail
        refine ⟨⟨q + 1, by omega, by go_num, ?_, HB2.out⟩, by simp [intOf]; try omega⟩
        show OwnE _ _ _ _ _ _ _
        rw [HE.out]
        exact HO2.out
      · have ht' : isTagB ⟨xk, xt, xd⟩ = false := by simpa using ht
        have HE := Lib.hid (HT.out.trans (by rw [if_neg ht]))
        clear ht
        go_wp2_with (at_builtin; go_must (refine wpList_app1 rfl (.tmp 30) (.tmp 32) 26 23 rfl Try.underlying26 _ 3 32 tok_info rfl (by decide) w1.heap.size _ _ _ rfl (by exact World.ownsRow.alloc HO2.out _) ⟨w2.heap.size, 0, none⟩ 1 (tkC ⟨xk, xt, xd⟩) rfl rfl (by exact cells_new _ _ _) (tkC_one _) (by omega) (by decide) (by simp; omega) ?_); intro g cap w3 hown1 hg1 hbel1 hgr1)
        refine ⟨⟨q + 1, by omega, by go_num, ?_, hbel1 _ _ (Nat.le_refl _) (by exact HB2.out.alloc hz2 _)⟩, by simp [intOf]; try omega⟩
        show OwnE _ _ _ _ _ _ _
        rw [HE.out]
        exact OwnE.snoc hown1
    · obtain rfl : q = a.length := by omega
      rw [List.take_length, HWL.out] at HO
      obtain ⟨Aw, cw, hv⟩ := own_shape HO.out
      subst hv
      have B2 := Lib.hid (B1.out.trans (HB.out.mono z1))
      have z2 := B2.out.size
      clear B1 HB RA
      go_wp2_with fail
      refine (HPI.out _).mono ?_
      rintro e w' ⟨rfl, rfl⟩
      go_wp2_with fail
      refine (HPK.out _).mono ?_
      rintro e w' ⟨rfl, rfl⟩
      have HO' := Lib.hid (World.ownsRow.alloc HO.out (.cells #[.int .i64 4, .string ⟨#[98, 114]⟩, .int .i64 7] 23))
      have HBX : Hid ((wr.alloc (.cells #[.int .i64 4, .string ⟨#[98, 114]⟩, .int .i64 7] 23)).heap[wr.heap.size]? = some (.cells #[.int .i64 4, .string ⟨#[98, 114]⟩, .int .i64 7] 23)) := Array.getElem?_push_size
      have hl0 : wr.heap.size < (wr.alloc (.cells #[.int .i64 4, .string ⟨#[98, 114]⟩, .int .i64 7] 23)).heap.size := by simp
      have B3 := Lib.hid (B2.out.alloc z2 (.cells #[.int .i64 4, .string ⟨#[98, 114]⟩, .int .i64 7] 23))
      have z3 := B3.out.size
      clear HO B2
      go_upto_region 12 with (fail)
      generalize wr.alloc (.cells #[.int .i64 4, .string ⟨#[98, 114]⟩, .int .i64 7] 23) = wq at HO' HBX hl0 B3 z3
      obtain ⟨x0, x1, x2⟩ := tbox HBX.out
      go_cut [13, 14] (fun av bv wx => Hid (RdT wx av ia) ∧ Hid (RdT wx bv ka) ∧ Hid (OwnE 23 tkC 3 wx w1.heap.size (.slice Aw wl.length cw) wl) ∧ Hid (Below w.heap.size w wx))
      case first =>
        go_region_with (first
          | (go_at_call 21; refine (HW.out _ _ _ _ (by exact own_below HO'.out HBa.out (Nat.le_refl _)) (by omega)).mono ?_; rintro e wb ⟨vb, rfl, hob, hbb⟩; have HBb := Lib.hid hbb; have HOb := Lib.hid hob; clear hob hbb)
          | (go_at_call 21; refine (HW.out _ _ _ _ (by exact HO'.out) (by omega)).mono ?_; rintro e wa ⟨va, rfl, hoa, hba⟩; have HBa : Hid (Below wq.heap.size wq wa) := (below_drewN (Below.refl _ _) 1).trans hba; have HOa := Lib.hid hoa; have hxa := Lib.hid ((HBa.out.block wr.heap.size hl0).trans HBX.out); obtain ⟨y0, y1, y2⟩ := tbox hxa.out; clear hoa hba))
        all_goals
          go_wp2_with fail
          go_meet
          refine ⟨?_, ?_, own_below (own_below HO'.out HBa.out (Nat.le_refl _)) HBb.out (Nat.le_refl _), B3.out.trans ((HBa.out.trans (HBb.out.mono HBa.out.size)).mono z3)⟩
          · show RdT _ _ _
            rw [← HIA.out]
            exact RdE.below (OwnE.rd tkC_three HOa.out) HBb.out (Nat.le_refl _)
          · show RdT _ _ _
            rw [← HKA.out]
            exact OwnE.rd tkC_three HOb.out
      case rest =>
        obtain ⟨RI, RK, HO3, B4⟩ := hcut
        have RW := Lib.hid (OwnE.rd tkC_three HO3.out)
        have z4 := B4.out.size
        clear x0 x1 x2 HBX HO' B3 HO3 hl0
        rcases (show i = k ∨ i ≠ k by omega) with hik | hik
        · have D0' := HDE.out hik
          subst hik D0'
          go_wp2_with fail
          refine (C0.out _ _ _ (by exact RI.out) (by exact RK.out)).mono ?_
          rintro e w5 ⟨rfl, hb5⟩
          have RI5 := Lib.hid (RdE.below RI.out hb5 (Nat.le_refl _))
          have RK5 := Lib.hid (RdE.below RK.out hb5 (Nat.le_refl _))
          have RW5 := Lib.hid (RdE.below RW.out hb5 (Nat.le_refl _))
          have B5 := Lib.hid (B4.out.trans (hb5.mono z4))
          have z5 := B5.out.size
          clear hb5
          go_wp2_with fail
          refine (C1.out _ _ _ (by exact RI5.out) (by exact RW5.out)).mono ?_
          rintro e w6 ⟨rfl, hb6⟩
          have RK6 := Lib.hid (RdE.below RK5.out hb6 (Nat.le_refl _))
          have RW6 := Lib.hid (RdE.below RW5.out hb6 (Nat.le_refl _))
          have B6 := Lib.hid (B5.out.trans (hb6.mono z5))
          have z6 := B6.out.size
          clear hb6
          go_wp2_with fail
          refine (C2.out _ _ _ (by exact RW6.out) (by exact RK6.out)).mono ?_
          rintro e w7 ⟨rfl, hb7⟩
          have B7 := Lib.hid (B6.out.trans (hb7.mono z6))
          have z7 := B7.out.size
          clear hb7
          go_wp2_with fail
          refine (known12_any _).mono ?_
          rintro e w8 ⟨rfl, hb8⟩
          go_wp2_with fail
          go_ret
          exact ⟨rfl, B7.out.trans (hb8.mono z7)⟩
        · have hik' : ((i : Int) == (k : Int)) = false := by simp; omega
          go_wp2_with fail
          refine (C0.out _ _ _ (by exact RI.out) (by exact RK.out)).mono ?_
          rintro e w5 ⟨rfl, hb5⟩
          have RI5 := Lib.hid (RdE.below RI.out hb5 (Nat.le_refl _))
          have RK5 := Lib.hid (RdE.below RK.out hb5 (Nat.le_refl _))
          have RW5 := Lib.hid (RdE.below RW.out hb5 (Nat.le_refl _))
          have B5 := Lib.hid (B4.out.trans (hb5.mono z4))
          have z5 := B5.out.size
          clear hb5
          go_wp2_with fail
          refine (C1.out _ _ _ (by exact RI5.out) (by exact RW5.out)).mono ?_
          rintro e w6 ⟨rfl, hb6⟩
          have RK6 := Lib.hid (RdE.below RK5.out hb6 (Nat.le_refl _))
          have RW6 := Lib.hid (RdE.below RW5.out hb6 (Nat.le_refl _))
          have B6 := Lib.hid (B5.out.trans (hb6.mono z5))
          have z6 := B6.out.size
          clear hb6
          go_wp2_with fail
          refine (C2.out _ _ _ (by exact RW6.out) (by exact RK6.out)).mono ?_
          rintro e w7 ⟨rfl, hb7⟩
          have B7 := Lib.hid (B6.out.trans (hb7.mono z6))
          have z7 := B7.out.size
          clear hb7
          go_wp2_with fail
          refine (known12_any _).mono ?_
          rintro e w8 ⟨rfl, hb8⟩
          go_wp2_with fail
          go_ret
          exact ⟨rfl, B7.out.trans (hb8.mono z7)⟩

end Go.Proofs.Yteccphcophjhpaa
