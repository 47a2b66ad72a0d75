
/-
  The walk of the law DistanceAligns.
-/
import Derived.Test.YteccphcophjhpaaLaw12B
import Derived.Test.YteccphcophjhpaaPriceP
import Derived.Test.YteccphcophjhpaaAlignP
import Derived.Test.YteccphcophjhpaaEdEq
import Derived.Test.YteccphcophjhpaaMathAligns
import Derived.Test.YteccphcophjhpaaOpenTok
namespace Go.Proofs.Yteccphcophjhpaa
open Go.RowKit

/-- The script so far and the numbers, in a world. -/
structure NE (g : Nat) (wn : World) (v : Value) (d : List Ed) (m : List Int) (N : Nat) (wx : World) : Prop where
  own : OwnE 43 edC 2 wx wn.heap.size v d
  but : But g wn wx
  num : Nums wx g m N
  gB : g < wn.heap.size
section
variable {g : Nat} {wn : World} {v v' : Value} {d d' : List Ed} {m : List Int} {N N' : Nat} {wx w' : World}
theorem NE.call (h : NE g wn v d m N wx) (hb : But g wx w') (hn : Nums w' g m N') : NE g wn v d m N' w' :=
  ⟨own_same h.own fun k hk => hb.block k (h.own.lt k hk).2 (by have := (h.own.lt k hk).1; have := h.gB; omega), h.but.trans hb, hn, h.gB⟩
theorem NE.alloc (h : NE g wn v d m N wx) (o : Obj) : NE g wn v d m N (wx.alloc o) := h.call ((But.refl _ _).alloc o) (h.num.alloc o)
theorem NE.below (h : NE g wn v d m N wx) (hb : Below wx.heap.size wx w') : NE g wn v d m N w' := h.call (.of_below hb) (h.num.below hb (Nat.le_refl _))
theorem NE.push (h : NE g wn v d m N wx) (hown : OwnE 43 edC 2 w' wn.heap.size v' d') (hgr : wx.grownBy w' v.ownBlock) : NE g wn v' d' m N w' := by
  have hg := h.gB
  have hO := h.own.lt
  have hsz := h.but.size
  refine ⟨hown, ⟨hgr.os.trans h.but.os, hgr.tape.trans h.but.tape, hgr.output.trans h.but.output, Nat.le_trans h.but.size hgr.size, fun k hk hn => (hgr.block k (by omega) (fun e => by have := (hO k e.symm).1; omega)).trans (h.but.block k hk hn)⟩, h.num.keepg fun k hk => ?_, hg⟩
  exact hgr.block k (by omega) (fun e => by have := (hO k e.symm).1; omega)
end

set_option maxRecDepth 100000 in
set_option maxHeartbeats 16000000 in
theorem walk_DistanceAligns (A0 : Option Addr) (n0 c0 : Nat) (l : List Int) (A1 : Option Addr) (n1 c1 : Nat) (m : List Int) (A2 : Option Addr) (n2 c2 : Nat) (ch : List Int) (w : World) (h0 : n0 = l.length ∧ l.length ≤ maxLen ∧ RdE intC 1 w (.slice A0 n0 c0) l ∧ ∀ x ∈ l, IntIn x) (h1 : n1 = m.length ∧ m.length ≤ maxLen ∧ RdE intC 1 w (.slice A1 n1 c1) m ∧ ∀ x ∈ m, IntIn x) (h2 : n2 = ch.length ∧ ch.length ≤ maxLen ∧ RdE intC 1 w (.slice A2 n2 c2) ch ∧ ∀ x ∈ ch, IntIn x) :
    Calls Try.prog 11 #[.slice A0 n0 c0, .slice A1 n1 c1, .slice A2 n2 c2] w fun e w' => e = .returned (.bool true) ∧ Below w.heap.size w w' := by
  obtain ⟨rfl, hl0, hr0, hi0⟩ := h0
  have HI0 := Lib.hid hi0
  have HR0 := Lib.hid hr0
  unfold maxLen at hl0
  clear hi0 hr0
  obtain ⟨rfl, hl1, hr1, hi1⟩ := h1
  have HI1 := Lib.hid hi1
  have HR1 := Lib.hid hr1
  unfold maxLen at hl1
  clear hi1 hr1
  obtain ⟨rfl, hl2, hr2, hi2⟩ := h2
  have HI2 := Lib.hid hi2
  have HR2 := Lib.hid hr2
  unfold maxLen at hl2
  clear hi2 hr2
  by_cases k0 : 60 < l.length
  · go_enter Try.func11, Try.ntmps11
    go_wp2_with (go_at_call 12; refine (known12_any _).mono ?_; rintro e w' ⟨rfl, hb'⟩)
    go_ret
    exact ⟨rfl, hb'⟩
  by_cases k1 : 60 < m.length
  · go_enter Try.func11, Try.ntmps11
    go_wp2_with (go_at_call 12; refine (known12_any _).mono ?_; rintro e w' ⟨rfl, hb'⟩)
    go_ret
    exact ⟨rfl, hb'⟩
  have M0 := mk_made l 14
  have HM0 := Lib.hid (fun (w : World) (h : RdE intC 1 w (.slice A0 l.length c0) l) => made12_any l 14 _ w h HI0.out (by decide))
  generalize mkT l 14 = a at M0 HM0
  have L0 := M0.len
  have D0 := Lib.hid M0.toD
  have M1 := mk_made m 14
  have HM1 := Lib.hid (fun (w : World) (h : RdE intC 1 w (.slice A1 m.length c1) m) => made12_any m 14 _ w h HI1.out (by decide))
  generalize mkT m 14 = b at M1 HM1
  have L1 := M1.len
  have D1 := Lib.hid M1.toD
  have CD := Lib.hid (fun (v u : Value) (w : World) (h : RdT w v a) (h' : RdT w u b) => dist_any a b v u w h h' (by omega) (by omega) D0.out D1.out)
  have CP := Lib.hid (fun (e : List Ed) (he : e.length ≤ 1000) (v u s : Value) (w : World) (h : RdT w v a) (h' : RdT w u b) (hs : RdEd w s e) => price_any a b e v u s w h h' hs (by omega) (by omega) (by omega) D0.out D1.out)
  have CA := Lib.hid (fun (v u : Value) (w : World) (h : RdT w v a) (h' : RdT w u b) => align_any a b v u w h h' (by omega) (by omega) D0.out D1.out)
  have AL := aln_len a b
  have cp0 := fun (v u s : Value) (w : World) (h : RdT w v a) (h' : RdT w u b) (hs : RdEd w s (alnL a b)) => CP.out (alnL a b) (by omega) v u s w h h' hs
  rw [price_aln] at cp0
  have CP0 := Lib.hid cp0
  clear cp0
  generalize alnL a b = S at CA AL CP0
  have HDD : Hid (∀ E i k s, Way a b E i k s → i = a.length → k = b.length → priceO a b E = some (s + 2 * supI a b) ∧ distI a b ≤ s + 2 * supI a b) := fun E i k s h hi hk => h.done hi hk
  generalize distI a b = D at CD CP0 HDD
  go_enter Try.func11, Try.ntmps11
  have B0 := Lib.hid (Below.refl w.heap.size w)
  have z0 : w.heap.size ≤ w.heap.size := Nat.le_refl _
  have RL_0 := Lib.hid HR0.out
  have RM_0 := Lib.hid HR1.out
  have RC_0 := Lib.hid HR2.out
  go_wp2_with fail
  refine (HM0.out _ (by exact RL_0.out)).mono ?_
  rintro e w1 ⟨va, rfl, hown, hb⟩
  have Ra_1 := Lib.hid (OwnE.rd tkC_three hown)
  obtain ⟨Aa, ca, hv⟩ := own_shape hown
  subst hv
  have B1 := Lib.hid (B0.out.trans (Below.mono (hb) z0))
  have z1 := B1.out.size
  have RM_1 := Lib.hid (RdE.below RM_0.out (hb) (Nat.le_refl _))
  have RC_1 := Lib.hid (RdE.below RC_0.out (hb) (Nat.le_refl _))
  clear B0 RL_0 RM_0 RC_0
  clear hown hb
  go_wp2_with fail
  refine (HM1.out _ (by exact RM_1.out)).mono ?_
  rintro e w2 ⟨vb, rfl, hown, hb⟩
  have Rb_2 := Lib.hid (OwnE.rd tkC_three hown)
  obtain ⟨Ab, cb, hv⟩ := own_shape hown
  subst hv
  have B2 := Lib.hid (B1.out.trans (Below.mono (hb) z1))
  have z2 := B2.out.size
  have RC_2 := Lib.hid (RdE.below RC_1.out (hb) (Nat.le_refl _))
  have Ra_2 := Lib.hid (RdE.below Ra_1.out (hb) (Nat.le_refl _))
  clear B1 RM_1 RC_1 Ra_1
  clear hown hb
  go_wp2_with fail
  refine (CD.out _ _ _ (by exact Ra_2.out) (by exact Rb_2.out)).mono ?_
  rintro e w3 ⟨rfl, hb⟩
  have B3 := Lib.hid (B2.out.trans (Below.mono (hb) z2))
  have z3 := B3.out.size
  have RC_3 := Lib.hid (RdE.below RC_2.out (hb) (Nat.le_refl _))
  have Ra_3 := Lib.hid (RdE.below Ra_2.out (hb) (Nat.le_refl _))
  have Rb_3 := Lib.hid (RdE.below Rb_2.out (hb) (Nat.le_refl _))
  clear B2 RC_2 Ra_2 Rb_2
  clear hb
  go_wp2_with fail
  refine (CA.out _ _ _ (by exact Ra_3.out) (by exact Rb_3.out)).mono ?_
  rintro e w4 ⟨vZ, rfl, hown, hb⟩
  have RZ_4 := Lib.hid (OwnE.rd edC_two hown)
  obtain ⟨AZ, cZ, hv⟩ := own_shape hown
  subst hv
  have B4 := Lib.hid (B3.out.trans (Below.mono (hb) z3))
  have z4 := B4.out.size
  have RC_4 := Lib.hid (RdE.below RC_3.out (hb) (Nat.le_refl _))
  have Ra_4 := Lib.hid (RdE.below Ra_3.out (hb) (Nat.le_refl _))
  have Rb_4 := Lib.hid (RdE.below Rb_3.out (hb) (Nat.le_refl _))
  clear B3 RC_3 Ra_3 Rb_3
  clear hown hb
  go_wp2_with fail
  refine (CP0.out _ _ _ _ (by exact Ra_4.out) (by exact Rb_4.out) (by exact RZ_4.out)).mono ?_
  rintro e w5 ⟨rfl, hb⟩
  have B5 := Lib.hid (B4.out.trans (Below.mono (hb) z4))
  have z5 := B5.out.size
  have RC_5 := Lib.hid (RdE.below RC_4.out (hb) (Nat.le_refl _))
  have Ra_5 := Lib.hid (RdE.below Ra_4.out (hb) (Nat.le_refl _))
  have Rb_5 := Lib.hid (RdE.below Rb_4.out (hb) (Nat.le_refl _))
  clear B4 RC_4 Ra_4 Rb_4 RZ_4
  clear hb
  have hN : Nums (w5.alloc (.cells #[.slice A2 ch.length c2, .int .i64 0] 55)) w5.heap.size ch 0 :=
    ⟨_, w5, Array.getElem?_push_size, RC_5.out, Nat.le_refl _, fun k hk => Below.heap_alloc _ _ _ hk, HI2.out⟩
  have HN0 : Hid (NE w5.heap.size (w5.alloc (.cells #[.slice A2 ch.length c2, .int .i64 0] 55)) (.slice none 0 0) [] ch 0 (w5.alloc (.cells #[.slice A2 ch.length c2, .int .i64 0] 55))) := ⟨OwnE.nil, But.refl _ _, hN, by simp⟩
  have HB0 := Lib.hid ((Below.refl w5.heap.size w5).alloc (Nat.le_refl _) (.cells #[.slice A2 ch.length c2, .int .i64 0] 55))
  clear hN
  go_wp2_with fail
  obtain ⟨wn, hwn⟩ : ∃ wn, Hid (w5.alloc (.cells #[.slice A2 ch.length c2, .int .i64 0] 55) = wn) := ⟨_, rfl⟩
  rw [hwn.out] at HN0 HB0
  go_loopw [12, 14, 15] (fun ov iv kv wr => ∃ (i k : Nat) (E : List Ed) (N : Nat) (s : Int), i ≤ a.length ∧ k ≤ b.length ∧ iv = .int .i64 i ∧ kv = .int .i64 k ∧ NE w5.heap.size wn ov E ch N wr ∧ E.length ≤ i + k ∧ N ≤ i + k ∧ Hid (Way a b E i k s)) (fun _ iv kv _ => a.length + b.length - (intOf iv).toNat - (intOf kv).toNat)
  case atStart =>
    rw [hwn.out]
    exact ⟨0, 0, [], 0, 0, Nat.zero_le _, Nat.zero_le _, rfl, rfl, HN0.out, Nat.zero_le _, Nat.zero_le _, Way.start a b⟩
  case round =>
    obtain ⟨i, k, E, N, s, hi0, hk0, rfl, rfl, hne, hE, hNN, HWY⟩ := hrel
    have HN := Lib.hid hne
    obtain ⟨Ao, co, hvo⟩ := own_shape hne.own
    subst hvo
    have HW := Lib.hid (HB0.out.trans (hne.but.below (Nat.le_refl _) (by exact Nat.le_of_lt hne.gB)))
    have hzw := hne.but.size
    have hgB := hne.gB
    clear hne
    have hzW := HW.out.size
    by_cases hdone : i < a.length ∨ k < b.length
    · have hz := nextN_bd ch N 3 (by decide)
      have HNX := Lib.hid (next_any' ch w5.heap.size N 3 wr HN.out.num (by omega) (by decide) (by decide))
      generalize nextN ch N 3 = z at hz HNX
      have e3 : IntKind.i64.wrap ((i : Int) + 1) = (i : Int) + 1 := by rw [IntKind.wrap_i64]; omega
      have f3 : IntKind.i64.wrap ((k : Int) + 1) = (k : Int) + 1 := by rw [IntKind.wrap_i64]; omega
      by_cases hia : i < a.length
      · have i1 : (i : Int) < (a.length : Int) := by omega
        by_cases hkb : k < b.length
        · have k1 : (k : Int) < (b.length : Int) := by omega
          have kne : ((k : Int) == (b.length : Int)) = false := beq_eq_false_iff_ne.2 (by omega)
          obtain ⟨cc, hcb⟩ : ∃ cc : Bool, costOk a[i] b[k] = cc := ⟨_, rfl⟩
          rcases (show z = 0 ∨ z = 1 ∨ z = 2 by omega) with rfl | rfl | rfl
          · cases cc
            · go_wp2_with fail
              refine (HNX.out).mono ?_
              rintro e w7 ⟨rfl, hb7, hn7⟩
              have HN7 := Lib.hid (HN.out.call hb7 hn7)
              have HW7 := Lib.hid (HB0.out.trans (HN7.out.but.below (Nat.le_refl _) (by exact Nat.le_of_lt hgB)))
              have hz7 := HN7.out.but.size
              clear hb7 hn7 HNX HN
              obtain ⟨bb, ob, rfl, hbl, q1, q2, q3⟩ := RdT.at_ Ra_5.out i hia
              rw [← HW7.out.cell (p := ⟨bb, ob + i * 3, none⟩) hbl] at q1
              rw [← HW7.out.cell (p := ⟨bb, ob + i * 3 + 1, none⟩) hbl] at q2
              rw [← HW7.out.cell (p := ⟨bb, ob + i * 3 + 2, none⟩) hbl] at q3
              have hxi := D0.out a[i] (List.getElem_mem hia)
              obtain ⟨b2, o2, rfl, hbl2, p1, p2, p3⟩ := RdT.at_ Rb_5.out k hkb
              rw [← HW7.out.cell (p := ⟨b2, o2 + k * 3, none⟩) hbl2] at p1
              rw [← HW7.out.cell (p := ⟨b2, o2 + k * 3 + 1, none⟩) hbl2] at p2
              rw [← HW7.out.cell (p := ⟨b2, o2 + k * 3 + 2, none⟩) hbl2] at p3
              have hyi := D1.out b[k] (List.getElem_mem hkb)
              have HCC : Hid (costOk a[i] b[k] = false) := hcb
              have hb1 : bb < w7.heap.size := by have := HW7.out.size; omega
              have hb2 : b2 < w7.heap.size := by have := HW7.out.size; omega
              generalize a[i] = x at q1 q2 q3 hxi HCC
              obtain ⟨xk, xt, xd⟩ := x
              have hxt : xt.size ≤ maxLen := hxi.1
              clear hxi
              simp only at q1 q2 q3
              generalize b[k] = y at p1 p2 p3 hyi HCC
              obtain ⟨yk, yt, yd⟩ := y
              have hyt : yt.size ≤ maxLen := hyi.1
              clear hyi
              simp only at p1 p2 p3
              have CC := fun w => rcost_any xk xd yk yd xt yt w hxt hyt
              rw [HCC.out] at CC
              have HCO := Lib.hid CC
              clear CC
              go_wp2_with fail
              have KP : Hid (∀ X X' : World, Below X.heap.size X X' → (X.cell? ⟨bb, ob + i * 3, none⟩ = some (.int .i64 xk) ∧ X.cell? ⟨bb, ob + i * 3 + 1, none⟩ = some (.string xt) ∧ X.cell? ⟨bb, ob + i * 3 + 2, none⟩ = some (.int .i64 xd) ∧ X.cell? ⟨b2, o2 + k * 3, none⟩ = some (.int .i64 yk) ∧ X.cell? ⟨b2, o2 + k * 3 + 1, none⟩ = some (.string yt) ∧ X.cell? ⟨b2, o2 + k * 3 + 2, none⟩ = some (.int .i64 yd) ∧ Hid (Below w7.heap.size w7 X ∧ bb < w7.heap.size ∧ b2 < w7.heap.size)) → (X'.cell? ⟨bb, ob + i * 3, none⟩ = some (.int .i64 xk) ∧ X'.cell? ⟨bb, ob + i * 3 + 1, none⟩ = some (.string xt) ∧ X'.cell? ⟨bb, ob + i * 3 + 2, none⟩ = some (.int .i64 xd) ∧ X'.cell? ⟨b2, o2 + k * 3, none⟩ = some (.int .i64 yk) ∧ X'.cell? ⟨b2, o2 + k * 3 + 1, none⟩ = some (.string yt) ∧ X'.cell? ⟨b2, o2 + k * 3 + 2, none⟩ = some (.int .i64 yd) ∧ Hid (Below w7.heap.size w7 X' ∧ bb < w7.heap.size ∧ b2 < w7.heap.size))) := by
                rintro X X' hb ⟨q0, q1, q2, q3, q4, q5, hH⟩
                obtain ⟨hB, l0, l1⟩ := hH.out
                have hsz := hB.size
                exact ⟨(hb.cell (p := ⟨bb, ob + i * 3, none⟩) (Nat.lt_of_lt_of_le l0 hsz)).trans q0, (hb.cell (p := ⟨bb, ob + i * 3 + 1, none⟩) (Nat.lt_of_lt_of_le l0 hsz)).trans q1, (hb.cell (p := ⟨bb, ob + i * 3 + 2, none⟩) (Nat.lt_of_lt_of_le l0 hsz)).trans q2, (hb.cell (p := ⟨b2, o2 + k * 3, none⟩) (Nat.lt_of_lt_of_le l1 hsz)).trans q3, (hb.cell (p := ⟨b2, o2 + k * 3 + 1, none⟩) (Nat.lt_of_lt_of_le l1 hsz)).trans q4, (hb.cell (p := ⟨b2, o2 + k * 3 + 2, none⟩) (Nat.lt_of_lt_of_le l1 hsz)).trans q5, ⟨hB.trans (hb.mono hsz), l0, l1⟩⟩
              have KD : Hid (∀ X : World, (X.cell? ⟨bb, ob + i * 3, none⟩ = some (.int .i64 xk) ∧ X.cell? ⟨bb, ob + i * 3 + 1, none⟩ = some (.string xt) ∧ X.cell? ⟨bb, ob + i * 3 + 2, none⟩ = some (.int .i64 xd) ∧ X.cell? ⟨b2, o2 + k * 3, none⟩ = some (.int .i64 yk) ∧ X.cell? ⟨b2, o2 + k * 3 + 1, none⟩ = some (.string yt) ∧ X.cell? ⟨b2, o2 + k * 3 + 2, none⟩ = some (.int .i64 yd) ∧ Hid (Below w7.heap.size w7 X ∧ bb < w7.heap.size ∧ b2 < w7.heap.size)) → (X.drew.cell? ⟨bb, ob + i * 3, none⟩ = some (.int .i64 xk) ∧ X.drew.cell? ⟨bb, ob + i * 3 + 1, none⟩ = some (.string xt) ∧ X.drew.cell? ⟨bb, ob + i * 3 + 2, none⟩ = some (.int .i64 xd) ∧ X.drew.cell? ⟨b2, o2 + k * 3, none⟩ = some (.int .i64 yk) ∧ X.drew.cell? ⟨b2, o2 + k * 3 + 1, none⟩ = some (.string yt) ∧ X.drew.cell? ⟨b2, o2 + k * 3 + 2, none⟩ = some (.int .i64 yd) ∧ Hid (Below w7.heap.size w7 X.drew ∧ bb < w7.heap.size ∧ b2 < w7.heap.size))) := by
                rintro X ⟨q0, q1, q2, q3, q4, q5, hH⟩
                exact ⟨q0, q1, q2, q3, q4, q5, ⟨below_drewN hH.out.1 1, hH.out.2⟩⟩
              have K0 : Hid (w7.cell? ⟨bb, ob + i * 3, none⟩ = some (.int .i64 xk) ∧ w7.cell? ⟨bb, ob + i * 3 + 1, none⟩ = some (.string xt) ∧ w7.cell? ⟨bb, ob + i * 3 + 2, none⟩ = some (.int .i64 xd) ∧ w7.cell? ⟨b2, o2 + k * 3, none⟩ = some (.int .i64 yk) ∧ w7.cell? ⟨b2, o2 + k * 3 + 1, none⟩ = some (.string yt) ∧ w7.cell? ⟨b2, o2 + k * 3 + 2, none⟩ = some (.int .i64 yd) ∧ Hid (Below w7.heap.size w7 w7 ∧ bb < w7.heap.size ∧ b2 < w7.heap.size)) := ⟨(q1), (q2), (q3), (p1), (p2), (p3), ⟨Below.refl _ _, (hb1), (hb2)⟩⟩
              go_region_held3 (fun w' => w'.cell? ⟨bb, ob + i * 3, none⟩ = some (.int .i64 xk) ∧ w'.cell? ⟨bb, ob + i * 3 + 1, none⟩ = some (.string xt) ∧ w'.cell? ⟨bb, ob + i * 3 + 2, none⟩ = some (.int .i64 xd) ∧ w'.cell? ⟨b2, o2 + k * 3, none⟩ = some (.int .i64 yk) ∧ w'.cell? ⟨b2, o2 + k * 3 + 1, none⟩ = some (.string yt) ∧ w'.cell? ⟨b2, o2 + k * 3 + 2, none⟩ = some (.int .i64 yd) ∧ Hid (Below w7.heap.size w7 w' ∧ bb < w7.heap.size ∧ b2 < w7.heap.size))
                (first | exact K0.out | exact KD.out _ K0.out | assumption | exact KP.out _ _ hb' (KD.out _ K0.out) | (refine KP.out _ _ hb' ?_; with_reducible_and_instances assumption) | (refine KD.out _ ?_; with_reducible_and_instances assumption))
                (first
                  | (go_at_call 16; refine (HCO.out _).mono ?_; rintro e w' ⟨rfl, hb'⟩))
              rename_i hh
              obtain ⟨t0, t1, t2, t3, t4, t5, tH⟩ := hh
              clear KP KD K0
              obtain ⟨w8, rfl⟩ : ∃ wz : World, wz = w' := ⟨_, rfl⟩
              have HN8 := Lib.hid (HN7.out.below tH.out.1)
              have hz8 := HN8.out.but.size
              clear t0 t1 t2 t3 t4 t5 tH HN7
              go_wp2_with (at_builtin; go_must (refine wpList_app1 rfl (.tmp 125) (.tmp 128) 41 43 rfl Try.underlying41 _ 2 16 edit_info rfl (by decide) wn.heap.size _ _ _ rfl (by exact (NE.alloc HN8.out _).own) ⟨w8.heap.size, 0, none⟩ 1 (edC (⟨-1, k⟩)) rfl rfl (by exact cells_new _ _ _) (edC_one _) (by omega) (by decide) (by have := (NE.alloc HN8.out (.cells (edC ⟨-1, k⟩).toArray 43)).but.size; exact this) ?_); intro g9 cap w9 hown1 hg1 hbel1 hgr1)
              have HN9 := Lib.hid (NE.push (NE.alloc HN8.out _) (OwnE.snoc hown1) hgr1)
              clear hown1 hg1 hbel1 hgr1
              exact ⟨⟨i, k + 1, E ++ [(⟨-1, k⟩ : Ed)], N + 1, _, by omega, by omega, by go_num, by go_num, HN9.out, by (rw [List.length_append, List.length_singleton]; omega), by omega, HWY.out.ins hkb⟩, by simp [intOf]; try omega⟩
            · have hcc := hcb
              go_wp2_with fail
              refine (HNX.out).mono ?_
              rintro e w7 ⟨rfl, hb7, hn7⟩
              have HN7 := Lib.hid (HN.out.call hb7 hn7)
              have HW7 := Lib.hid (HB0.out.trans (HN7.out.but.below (Nat.le_refl _) (by exact Nat.le_of_lt hgB)))
              have hz7 := HN7.out.but.size
              clear hb7 hn7 HNX HN
              obtain ⟨bb, ob, rfl, hbl, q1, q2, q3⟩ := RdT.at_ Ra_5.out i hia
              rw [← HW7.out.cell (p := ⟨bb, ob + i * 3, none⟩) hbl] at q1
              rw [← HW7.out.cell (p := ⟨bb, ob + i * 3 + 1, none⟩) hbl] at q2
              rw [← HW7.out.cell (p := ⟨bb, ob + i * 3 + 2, none⟩) hbl] at q3
              have hxi := D0.out a[i] (List.getElem_mem hia)
              obtain ⟨b2, o2, rfl, hbl2, p1, p2, p3⟩ := RdT.at_ Rb_5.out k hkb
              rw [← HW7.out.cell (p := ⟨b2, o2 + k * 3, none⟩) hbl2] at p1
              rw [← HW7.out.cell (p := ⟨b2, o2 + k * 3 + 1, none⟩) hbl2] at p2
              rw [← HW7.out.cell (p := ⟨b2, o2 + k * 3 + 2, none⟩) hbl2] at p3
              have hyi := D1.out b[k] (List.getElem_mem hkb)
              have HCC : Hid (costOk a[i] b[k] = true) := hcb
              have hb1 : bb < w7.heap.size := by have := HW7.out.size; omega
              have hb2 : b2 < w7.heap.size := by have := HW7.out.size; omega
              generalize a[i] = x at q1 q2 q3 hxi HCC
              obtain ⟨xk, xt, xd⟩ := x
              have hxt : xt.size ≤ maxLen := hxi.1
              clear hxi
              simp only at q1 q2 q3
              generalize b[k] = y at p1 p2 p3 hyi HCC
              obtain ⟨yk, yt, yd⟩ := y
              have hyt : yt.size ≤ maxLen := hyi.1
              clear hyi
              simp only at p1 p2 p3
              have CC := fun w => rcost_any xk xd yk yd xt yt w hxt hyt
              rw [HCC.out] at CC
              have HCO := Lib.hid CC
              clear CC
              go_wp2_with fail
              have KP : Hid (∀ X X' : World, Below X.heap.size X X' → (X.cell? ⟨bb, ob + i * 3, none⟩ = some (.int .i64 xk) ∧ X.cell? ⟨bb, ob + i * 3 + 1, none⟩ = some (.string xt) ∧ X.cell? ⟨bb, ob + i * 3 + 2, none⟩ = some (.int .i64 xd) ∧ X.cell? ⟨b2, o2 + k * 3, none⟩ = some (.int .i64 yk) ∧ X.cell? ⟨b2, o2 + k * 3 + 1, none⟩ = some (.string yt) ∧ X.cell? ⟨b2, o2 + k * 3 + 2, none⟩ = some (.int .i64 yd) ∧ Hid (Below w7.heap.size w7 X ∧ bb < w7.heap.size ∧ b2 < w7.heap.size)) → (X'.cell? ⟨bb, ob + i * 3, none⟩ = some (.int .i64 xk) ∧ X'.cell? ⟨bb, ob + i * 3 + 1, none⟩ = some (.string xt) ∧ X'.cell? ⟨bb, ob + i * 3 + 2, none⟩ = some (.int .i64 xd) ∧ X'.cell? ⟨b2, o2 + k * 3, none⟩ = some (.int .i64 yk) ∧ X'.cell? ⟨b2, o2 + k * 3 + 1, none⟩ = some (.string yt) ∧ X'.cell? ⟨b2, o2 + k * 3 + 2, none⟩ = some (.int .i64 yd) ∧ Hid (Below w7.heap.size w7 X' ∧ bb < w7.heap.size ∧ b2 < w7.heap.size))) := by
                rintro X X' hb ⟨q0, q1, q2, q3, q4, q5, hH⟩
                obtain ⟨hB, l0, l1⟩ := hH.out
                have hsz := hB.size
                exact ⟨(hb.cell (p := ⟨bb, ob + i * 3, none⟩) (Nat.lt_of_lt_of_le l0 hsz)).trans q0, (hb.cell (p := ⟨bb, ob + i * 3 + 1, none⟩) (Nat.lt_of_lt_of_le l0 hsz)).trans q1, (hb.cell (p := ⟨bb, ob + i * 3 + 2, none⟩) (Nat.lt_of_lt_of_le l0 hsz)).trans q2, (hb.cell (p := ⟨b2, o2 + k * 3, none⟩) (Nat.lt_of_lt_of_le l1 hsz)).trans q3, (hb.cell (p := ⟨b2, o2 + k * 3 + 1, none⟩) (Nat.lt_of_lt_of_le l1 hsz)).trans q4, (hb.cell (p := ⟨b2, o2 + k * 3 + 2, none⟩) (Nat.lt_of_lt_of_le l1 hsz)).trans q5, ⟨hB.trans (hb.mono hsz), l0, l1⟩⟩
              have KD : Hid (∀ X : World, (X.cell? ⟨bb, ob + i * 3, none⟩ = some (.int .i64 xk) ∧ X.cell? ⟨bb, ob + i * 3 + 1, none⟩ = some (.string xt) ∧ X.cell? ⟨bb, ob + i * 3 + 2, none⟩ = some (.int .i64 xd) ∧ X.cell? ⟨b2, o2 + k * 3, none⟩ = some (.int .i64 yk) ∧ X.cell? ⟨b2, o2 + k * 3 + 1, none⟩ = some (.string yt) ∧ X.cell? ⟨b2, o2 + k * 3 + 2, none⟩ = some (.int .i64 yd) ∧ Hid (Below w7.heap.size w7 X ∧ bb < w7.heap.size ∧ b2 < w7.heap.size)) → (X.drew.cell? ⟨bb, ob + i * 3, none⟩ = some (.int .i64 xk) ∧ X.drew.cell? ⟨bb, ob + i * 3 + 1, none⟩ = some (.string xt) ∧ X.drew.cell? ⟨bb, ob + i * 3 + 2, none⟩ = some (.int .i64 xd) ∧ X.drew.cell? ⟨b2, o2 + k * 3, none⟩ = some (.int .i64 yk) ∧ X.drew.cell? ⟨b2, o2 + k * 3 + 1, none⟩ = some (.string yt) ∧ X.drew.cell? ⟨b2, o2 + k * 3 + 2, none⟩ = some (.int .i64 yd) ∧ Hid (Below w7.heap.size w7 X.drew ∧ bb < w7.heap.size ∧ b2 < w7.heap.size))) := by
                rintro X ⟨q0, q1, q2, q3, q4, q5, hH⟩
                exact ⟨q0, q1, q2, q3, q4, q5, ⟨below_drewN hH.out.1 1, hH.out.2⟩⟩
              have K0 : Hid (w7.cell? ⟨bb, ob + i * 3, none⟩ = some (.int .i64 xk) ∧ w7.cell? ⟨bb, ob + i * 3 + 1, none⟩ = some (.string xt) ∧ w7.cell? ⟨bb, ob + i * 3 + 2, none⟩ = some (.int .i64 xd) ∧ w7.cell? ⟨b2, o2 + k * 3, none⟩ = some (.int .i64 yk) ∧ w7.cell? ⟨b2, o2 + k * 3 + 1, none⟩ = some (.string yt) ∧ w7.cell? ⟨b2, o2 + k * 3 + 2, none⟩ = some (.int .i64 yd) ∧ Hid (Below w7.heap.size w7 w7 ∧ bb < w7.heap.size ∧ b2 < w7.heap.size)) := ⟨(q1), (q2), (q3), (p1), (p2), (p3), ⟨Below.refl _ _, (hb1), (hb2)⟩⟩
              go_region_held3 (fun w' => w'.cell? ⟨bb, ob + i * 3, none⟩ = some (.int .i64 xk) ∧ w'.cell? ⟨bb, ob + i * 3 + 1, none⟩ = some (.string xt) ∧ w'.cell? ⟨bb, ob + i * 3 + 2, none⟩ = some (.int .i64 xd) ∧ w'.cell? ⟨b2, o2 + k * 3, none⟩ = some (.int .i64 yk) ∧ w'.cell? ⟨b2, o2 + k * 3 + 1, none⟩ = some (.string yt) ∧ w'.cell? ⟨b2, o2 + k * 3 + 2, none⟩ = some (.int .i64 yd) ∧ Hid (Below w7.heap.size w7 w' ∧ bb < w7.heap.size ∧ b2 < w7.heap.size))
                (first | exact K0.out | exact KD.out _ K0.out | assumption | exact KP.out _ _ hb' (KD.out _ K0.out) | (refine KP.out _ _ hb' ?_; with_reducible_and_instances assumption) | (refine KD.out _ ?_; with_reducible_and_instances assumption))
                (first
                  | (go_at_call 16; refine (HCO.out _).mono ?_; rintro e w' ⟨rfl, hb'⟩))
              rename_i hh
              obtain ⟨t0, t1, t2, t3, t4, t5, tH⟩ := hh
              clear KP KD K0
              obtain ⟨w8, rfl⟩ : ∃ wz : World, wz = w' := ⟨_, rfl⟩
              have HN8 := Lib.hid (HN7.out.below tH.out.1)
              have hz8 := HN8.out.but.size
              clear t0 t1 t2 t3 t4 t5 tH HN7
              go_wp2_with (at_builtin; go_must (refine wpList_app1 rfl (.tmp 88) (.tmp 92) 41 43 rfl Try.underlying41 _ 2 16 edit_info rfl (by decide) wn.heap.size _ _ _ rfl (by exact (NE.alloc HN8.out _).own) ⟨w8.heap.size, 0, none⟩ 1 (edC (⟨i, k⟩)) rfl rfl (by exact cells_new _ _ _) (edC_one _) (by omega) (by decide) (by have := (NE.alloc HN8.out (.cells (edC ⟨i, k⟩).toArray 43)).but.size; exact this) ?_); intro g9 cap w9 hown1 hg1 hbel1 hgr1)
              have HN9 := Lib.hid (NE.push (NE.alloc HN8.out _) (OwnE.snoc hown1) hgr1)
              clear hown1 hg1 hbel1 hgr1
              exact ⟨⟨i + 1, k + 1, E ++ [(⟨i, k⟩ : Ed)], N + 1, _, by omega, by omega, by go_num, by go_num, HN9.out, by (rw [List.length_append, List.length_singleton]; omega), by omega, HWY.out.pair hia hkb hcc⟩, by simp [intOf]; try omega⟩
          · go_wp2_with fail
            refine (HNX.out).mono ?_
            rintro e w7 ⟨rfl, hb7, hn7⟩
            have HN7 := Lib.hid (HN.out.call hb7 hn7)
            have HW7 := Lib.hid (HB0.out.trans (HN7.out.but.below (Nat.le_refl _) (by exact Nat.le_of_lt hgB)))
            have hz7 := HN7.out.but.size
            clear hb7 hn7 HNX HN
            obtain ⟨bb, ob, rfl, hbl, q1, q2, q3⟩ := RdT.at_ Ra_5.out i hia
            rw [← HW7.out.cell (p := ⟨bb, ob + i * 3, none⟩) hbl] at q1
            rw [← HW7.out.cell (p := ⟨bb, ob + i * 3 + 1, none⟩) hbl] at q2
            rw [← HW7.out.cell (p := ⟨bb, ob + i * 3 + 2, none⟩) hbl] at q3
            have hxi := D0.out a[i] (List.getElem_mem hia)
            obtain ⟨b2, o2, rfl, hbl2, p1, p2, p3⟩ := RdT.at_ Rb_5.out k hkb
            rw [← HW7.out.cell (p := ⟨b2, o2 + k * 3, none⟩) hbl2] at p1
            rw [← HW7.out.cell (p := ⟨b2, o2 + k * 3 + 1, none⟩) hbl2] at p2
            rw [← HW7.out.cell (p := ⟨b2, o2 + k * 3 + 2, none⟩) hbl2] at p3
            have hyi := D1.out b[k] (List.getElem_mem hkb)
            have HCC : Hid (costOk a[i] b[k] = cc) := hcb
            have hb1 : bb < w7.heap.size := by have := HW7.out.size; omega
            have hb2 : b2 < w7.heap.size := by have := HW7.out.size; omega
            generalize a[i] = x at q1 q2 q3 hxi HCC
            obtain ⟨xk, xt, xd⟩ := x
            have hxt : xt.size ≤ maxLen := hxi.1
            clear hxi
            simp only at q1 q2 q3
            generalize b[k] = y at p1 p2 p3 hyi HCC
            obtain ⟨yk, yt, yd⟩ := y
            have hyt : yt.size ≤ maxLen := hyi.1
            clear hyi
            simp only at p1 p2 p3
            have CC := fun w => rcost_any xk xd yk yd xt yt w hxt hyt
            rw [HCC.out] at CC
            have HCO := Lib.hid CC
            clear CC
            go_wp2_with fail
            have KP : Hid (∀ X X' : World, Below X.heap.size X X' → (X.cell? ⟨bb, ob + i * 3, none⟩ = some (.int .i64 xk) ∧ X.cell? ⟨bb, ob + i * 3 + 1, none⟩ = some (.string xt) ∧ X.cell? ⟨bb, ob + i * 3 + 2, none⟩ = some (.int .i64 xd) ∧ X.cell? ⟨b2, o2 + k * 3, none⟩ = some (.int .i64 yk) ∧ X.cell? ⟨b2, o2 + k * 3 + 1, none⟩ = some (.string yt) ∧ X.cell? ⟨b2, o2 + k * 3 + 2, none⟩ = some (.int .i64 yd) ∧ Hid (Below w7.heap.size w7 X ∧ bb < w7.heap.size ∧ b2 < w7.heap.size)) → (X'.cell? ⟨bb, ob + i * 3, none⟩ = some (.int .i64 xk) ∧ X'.cell? ⟨bb, ob + i * 3 + 1, none⟩ = some (.string xt) ∧ X'.cell? ⟨bb, ob + i * 3 + 2, none⟩ = some (.int .i64 xd) ∧ X'.cell? ⟨b2, o2 + k * 3, none⟩ = some (.int .i64 yk) ∧ X'.cell? ⟨b2, o2 + k * 3 + 1, none⟩ = some (.string yt) ∧ X'.cell? ⟨b2, o2 + k * 3 + 2, none⟩ = some (.int .i64 yd) ∧ Hid (Below w7.heap.size w7 X' ∧ bb < w7.heap.size ∧ b2 < w7.heap.size))) := by
              rintro X X' hb ⟨q0, q1, q2, q3, q4, q5, hH⟩
              obtain ⟨hB, l0, l1⟩ := hH.out
              have hsz := hB.size
              exact ⟨(hb.cell (p := ⟨bb, ob + i * 3, none⟩) (Nat.lt_of_lt_of_le l0 hsz)).trans q0, (hb.cell (p := ⟨bb, ob + i * 3 + 1, none⟩) (Nat.lt_of_lt_of_le l0 hsz)).trans q1, (hb.cell (p := ⟨bb, ob + i * 3 + 2, none⟩) (Nat.lt_of_lt_of_le l0 hsz)).trans q2, (hb.cell (p := ⟨b2, o2 + k * 3, none⟩) (Nat.lt_of_lt_of_le l1 hsz)).trans q3, (hb.cell (p := ⟨b2, o2 + k * 3 + 1, none⟩) (Nat.lt_of_lt_of_le l1 hsz)).trans q4, (hb.cell (p := ⟨b2, o2 + k * 3 + 2, none⟩) (Nat.lt_of_lt_of_le l1 hsz)).trans q5, ⟨hB.trans (hb.mono hsz), l0, l1⟩⟩
            have KD : Hid (∀ X : World, (X.cell? ⟨bb, ob + i * 3, none⟩ = some (.int .i64 xk) ∧ X.cell? ⟨bb, ob + i * 3 + 1, none⟩ = some (.string xt) ∧ X.cell? ⟨bb, ob + i * 3 + 2, none⟩ = some (.int .i64 xd) ∧ X.cell? ⟨b2, o2 + k * 3, none⟩ = some (.int .i64 yk) ∧ X.cell? ⟨b2, o2 + k * 3 + 1, none⟩ = some (.string yt) ∧ X.cell? ⟨b2, o2 + k * 3 + 2, none⟩ = some (.int .i64 yd) ∧ Hid (Below w7.heap.size w7 X ∧ bb < w7.heap.size ∧ b2 < w7.heap.size)) → (X.drew.cell? ⟨bb, ob + i * 3, none⟩ = some (.int .i64 xk) ∧ X.drew.cell? ⟨bb, ob + i * 3 + 1, none⟩ = some (.string xt) ∧ X.drew.cell? ⟨bb, ob + i * 3 + 2, none⟩ = some (.int .i64 xd) ∧ X.drew.cell? ⟨b2, o2 + k * 3, none⟩ = some (.int .i64 yk) ∧ X.drew.cell? ⟨b2, o2 + k * 3 + 1, none⟩ = some (.string yt) ∧ X.drew.cell? ⟨b2, o2 + k * 3 + 2, none⟩ = some (.int .i64 yd) ∧ Hid (Below w7.heap.size w7 X.drew ∧ bb < w7.heap.size ∧ b2 < w7.heap.size))) := by
              rintro X ⟨q0, q1, q2, q3, q4, q5, hH⟩
              exact ⟨q0, q1, q2, q3, q4, q5, ⟨below_drewN hH.out.1 1, hH.out.2⟩⟩
            have K0 : Hid (w7.cell? ⟨bb, ob + i * 3, none⟩ = some (.int .i64 xk) ∧ w7.cell? ⟨bb, ob + i * 3 + 1, none⟩ = some (.string xt) ∧ w7.cell? ⟨bb, ob + i * 3 + 2, none⟩ = some (.int .i64 xd) ∧ w7.cell? ⟨b2, o2 + k * 3, none⟩ = some (.int .i64 yk) ∧ w7.cell? ⟨b2, o2 + k * 3 + 1, none⟩ = some (.string yt) ∧ w7.cell? ⟨b2, o2 + k * 3 + 2, none⟩ = some (.int .i64 yd) ∧ Hid (Below w7.heap.size w7 w7 ∧ bb < w7.heap.size ∧ b2 < w7.heap.size)) := ⟨(q1), (q2), (q3), (p1), (p2), (p3), ⟨Below.refl _ _, (hb1), (hb2)⟩⟩
            go_region_held3 (fun w' => w'.cell? ⟨bb, ob + i * 3, none⟩ = some (.int .i64 xk) ∧ w'.cell? ⟨bb, ob + i * 3 + 1, none⟩ = some (.string xt) ∧ w'.cell? ⟨bb, ob + i * 3 + 2, none⟩ = some (.int .i64 xd) ∧ w'.cell? ⟨b2, o2 + k * 3, none⟩ = some (.int .i64 yk) ∧ w'.cell? ⟨b2, o2 + k * 3 + 1, none⟩ = some (.string yt) ∧ w'.cell? ⟨b2, o2 + k * 3 + 2, none⟩ = some (.int .i64 yd) ∧ Hid (Below w7.heap.size w7 w' ∧ bb < w7.heap.size ∧ b2 < w7.heap.size))
              (first | exact K0.out | exact KD.out _ K0.out | assumption | exact KP.out _ _ hb' (KD.out _ K0.out) | (refine KP.out _ _ hb' ?_; with_reducible_and_instances assumption) | (refine KD.out _ ?_; with_reducible_and_instances assumption))
              (first
                | (go_at_call 16; refine (HCO.out _).mono ?_; rintro e w' ⟨rfl, hb'⟩))
            rename_i hh
            obtain ⟨t0, t1, t2, t3, t4, t5, tH⟩ := hh
            clear KP KD K0
            obtain ⟨w8, rfl⟩ : ∃ wz : World, wz = w' := ⟨_, rfl⟩
            have HN8 := Lib.hid (HN7.out.below tH.out.1)
            have hz8 := HN8.out.but.size
            clear t0 t1 t2 t3 t4 t5 tH HN7
            go_wp2_with (at_builtin; go_must (refine wpList_app1 rfl (.tmp 113) (.tmp 116) 41 43 rfl Try.underlying41 _ 2 16 edit_info rfl (by decide) wn.heap.size _ _ _ rfl (by exact (NE.alloc HN8.out _).own) ⟨w8.heap.size, 0, none⟩ 1 (edC (⟨i, -1⟩)) rfl rfl (by exact cells_new _ _ _) (edC_one _) (by omega) (by decide) (by have := (NE.alloc HN8.out (.cells (edC ⟨i, -1⟩).toArray 43)).but.size; exact this) ?_); intro g9 cap w9 hown1 hg1 hbel1 hgr1)
            have HN9 := Lib.hid (NE.push (NE.alloc HN8.out _) (OwnE.snoc hown1) hgr1)
            clear hown1 hg1 hbel1 hgr1
            exact ⟨⟨i + 1, k, E ++ [(⟨i, -1⟩ : Ed)], N + 1, _, by omega, by omega, by go_num, by go_num, HN9.out, by (rw [List.length_append, List.length_singleton]; omega), by omega, HWY.out.del hia⟩, by simp [intOf]; try omega⟩
          · go_wp2_with fail
            refine (HNX.out).mono ?_
            rintro e w7 ⟨rfl, hb7, hn7⟩
            have HN7 := Lib.hid (HN.out.call hb7 hn7)
            have HW7 := Lib.hid (HB0.out.trans (HN7.out.but.below (Nat.le_refl _) (by exact Nat.le_of_lt hgB)))
            have hz7 := HN7.out.but.size
            clear hb7 hn7 HNX HN
            obtain ⟨bb, ob, rfl, hbl, q1, q2, q3⟩ := RdT.at_ Ra_5.out i hia
            rw [← HW7.out.cell (p := ⟨bb, ob + i * 3, none⟩) hbl] at q1
            rw [← HW7.out.cell (p := ⟨bb, ob + i * 3 + 1, none⟩) hbl] at q2
            rw [← HW7.out.cell (p := ⟨bb, ob + i * 3 + 2, none⟩) hbl] at q3
            have hxi := D0.out a[i] (List.getElem_mem hia)
            obtain ⟨b2, o2, rfl, hbl2, p1, p2, p3⟩ := RdT.at_ Rb_5.out k hkb
            rw [← HW7.out.cell (p := ⟨b2, o2 + k * 3, none⟩) hbl2] at p1
            rw [← HW7.out.cell (p := ⟨b2, o2 + k * 3 + 1, none⟩) hbl2] at p2
            rw [← HW7.out.cell (p := ⟨b2, o2 + k * 3 + 2, none⟩) hbl2] at p3
            have hyi := D1.out b[k] (List.getElem_mem hkb)
            have HCC : Hid (costOk a[i] b[k] = cc) := hcb
            have hb1 : bb < w7.heap.size := by have := HW7.out.size; omega
            have hb2 : b2 < w7.heap.size := by have := HW7.out.size; omega
            generalize a[i] = x at q1 q2 q3 hxi HCC
            obtain ⟨xk, xt, xd⟩ := x
            have hxt : xt.size ≤ maxLen := hxi.1
            clear hxi
            simp only at q1 q2 q3
            generalize b[k] = y at p1 p2 p3 hyi HCC
            obtain ⟨yk, yt, yd⟩ := y
            have hyt : yt.size ≤ maxLen := hyi.1
            clear hyi
            simp only at p1 p2 p3
            have CC := fun w => rcost_any xk xd yk yd xt yt w hxt hyt
            rw [HCC.out] at CC
            have HCO := Lib.hid CC
            clear CC
            go_wp2_with fail
            have KP : Hid (∀ X X' : World, Below X.heap.size X X' → (X.cell? ⟨bb, ob + i * 3, none⟩ = some (.int .i64 xk) ∧ X.cell? ⟨bb, ob + i * 3 + 1, none⟩ = some (.string xt) ∧ X.cell? ⟨bb, ob + i * 3 + 2, none⟩ = some (.int .i64 xd) ∧ X.cell? ⟨b2, o2 + k * 3, none⟩ = some (.int .i64 yk) ∧ X.cell? ⟨b2, o2 + k * 3 + 1, none⟩ = some (.string yt) ∧ X.cell? ⟨b2, o2 + k * 3 + 2, none⟩ = some (.int .i64 yd) ∧ Hid (Below w7.heap.size w7 X ∧ bb < w7.heap.size ∧ b2 < w7.heap.size)) → (X'.cell? ⟨bb, ob + i * 3, none⟩ = some (.int .i64 xk) ∧ X'.cell? ⟨bb, ob + i * 3 + 1, none⟩ = some (.string xt) ∧ X'.cell? ⟨bb, ob + i * 3 + 2, none⟩ = some (.int .i64 xd) ∧ X'.cell? ⟨b2, o2 + k * 3, none⟩ = some (.int .i64 yk) ∧ X'.cell? ⟨b2, o2 + k * 3 + 1, none⟩ = some (.string yt) ∧ X'.cell? ⟨b2, o2 + k * 3 + 2, none⟩ = some (.int .i64 yd) ∧ Hid (Below w7.heap.size w7 X' ∧ bb < w7.heap.size ∧ b2 < w7.heap.size))) := by
              rintro X X' hb ⟨q0, q1, q2, q3, q4, q5, hH⟩
              obtain ⟨hB, l0, l1⟩ := hH.out
              have hsz := hB.size
              exact ⟨(hb.cell (p := ⟨bb, ob + i * 3, none⟩) (Nat.lt_of_lt_of_le l0 hsz)).trans q0, (hb.cell (p := ⟨bb, ob + i * 3 + 1, none⟩) (Nat.lt_of_lt_of_le l0 hsz)).trans q1, (hb.cell (p := ⟨bb, ob + i * 3 + 2, none⟩) (Nat.lt_of_lt_of_le l0 hsz)).trans q2, (hb.cell (p := ⟨b2, o2 + k * 3, none⟩) (Nat.lt_of_lt_of_le l1 hsz)).trans q3, (hb.cell (p := ⟨b2, o2 + k * 3 + 1, none⟩) (Nat.lt_of_lt_of_le l1 hsz)).trans q4, (hb.cell (p := ⟨b2, o2 + k * 3 + 2, none⟩) (Nat.lt_of_lt_of_le l1 hsz)).trans q5, ⟨hB.trans (hb.mono hsz), l0, l1⟩⟩
            have KD : Hid (∀ X : World, (X.cell? ⟨bb, ob + i * 3, none⟩ = some (.int .i64 xk) ∧ X.cell? ⟨bb, ob + i * 3 + 1, none⟩ = some (.string xt) ∧ X.cell? ⟨bb, ob + i * 3 + 2, none⟩ = some (.int .i64 xd) ∧ X.cell? ⟨b2, o2 + k * 3, none⟩ = some (.int .i64 yk) ∧ X.cell? ⟨b2, o2 + k * 3 + 1, none⟩ = some (.string yt) ∧ X.cell? ⟨b2, o2 + k * 3 + 2, none⟩ = some (.int .i64 yd) ∧ Hid (Below w7.heap.size w7 X ∧ bb < w7.heap.size ∧ b2 < w7.heap.size)) → (X.drew.cell? ⟨bb, ob + i * 3, none⟩ = some (.int .i64 xk) ∧ X.drew.cell? ⟨bb, ob + i * 3 + 1, none⟩ = some (.string xt) ∧ X.drew.cell? ⟨bb, ob + i * 3 + 2, none⟩ = some (.int .i64 xd) ∧ X.drew.cell? ⟨b2, o2 + k * 3, none⟩ = some (.int .i64 yk) ∧ X.drew.cell? ⟨b2, o2 + k * 3 + 1, none⟩ = some (.string yt) ∧ X.drew.cell? ⟨b2, o2 + k * 3 + 2, none⟩ = some (.int .i64 yd) ∧ Hid (Below w7.heap.size w7 X.drew ∧ bb < w7.heap.size ∧ b2 < w7.heap.size))) := by
              rintro X ⟨q0, q1, q2, q3, q4, q5, hH⟩
              exact ⟨q0, q1, q2, q3, q4, q5, ⟨below_drewN hH.out.1 1, hH.out.2⟩⟩
            have K0 : Hid (w7.cell? ⟨bb, ob + i * 3, none⟩ = some (.int .i64 xk) ∧ w7.cell? ⟨bb, ob + i * 3 + 1, none⟩ = some (.string xt) ∧ w7.cell? ⟨bb, ob + i * 3 + 2, none⟩ = some (.int .i64 xd) ∧ w7.cell? ⟨b2, o2 + k * 3, none⟩ = some (.int .i64 yk) ∧ w7.cell? ⟨b2, o2 + k * 3 + 1, none⟩ = some (.string yt) ∧ w7.cell? ⟨b2, o2 + k * 3 + 2, none⟩ = some (.int .i64 yd) ∧ Hid (Below w7.heap.size w7 w7 ∧ bb < w7.heap.size ∧ b2 < w7.heap.size)) := ⟨(q1), (q2), (q3), (p1), (p2), (p3), ⟨Below.refl _ _, (hb1), (hb2)⟩⟩
            go_region_held3 (fun w' => w'.cell? ⟨bb, ob + i * 3, none⟩ = some (.int .i64 xk) ∧ w'.cell? ⟨bb, ob + i * 3 + 1, none⟩ = some (.string xt) ∧ w'.cell? ⟨bb, ob + i * 3 + 2, none⟩ = some (.int .i64 xd) ∧ w'.cell? ⟨b2, o2 + k * 3, none⟩ = some (.int .i64 yk) ∧ w'.cell? ⟨b2, o2 + k * 3 + 1, none⟩ = some (.string yt) ∧ w'.cell? ⟨b2, o2 + k * 3 + 2, none⟩ = some (.int .i64 yd) ∧ Hid (Below w7.heap.size w7 w' ∧ bb < w7.heap.size ∧ b2 < w7.heap.size))
              (first | exact K0.out | exact KD.out _ K0.out | assumption | exact KP.out _ _ hb' (KD.out _ K0.out) | (refine KP.out _ _ hb' ?_; with_reducible_and_instances assumption) | (refine KD.out _ ?_; with_reducible_and_instances assumption))
              (first
                | (go_at_call 16; refine (HCO.out _).mono ?_; rintro e w' ⟨rfl, hb'⟩))
            rename_i hh
            obtain ⟨t0, t1, t2, t3, t4, t5, tH⟩ := hh
            clear KP KD K0
            obtain ⟨w8, rfl⟩ : ∃ wz : World, wz = w' := ⟨_, rfl⟩
            have HN8 := Lib.hid (HN7.out.below tH.out.1)
            have hz8 := HN8.out.but.size
            clear t0 t1 t2 t3 t4 t5 tH HN7
            go_wp2_with (at_builtin; go_must (refine wpList_app1 rfl (.tmp 125) (.tmp 128) 41 43 rfl Try.underlying41 _ 2 16 edit_info rfl (by decide) wn.heap.size _ _ _ rfl (by exact (NE.alloc HN8.out _).own) ⟨w8.heap.size, 0, none⟩ 1 (edC (⟨-1, k⟩)) rfl rfl (by exact cells_new _ _ _) (edC_one _) (by omega) (by decide) (by have := (NE.alloc HN8.out (.cells (edC ⟨-1, k⟩).toArray 43)).but.size; exact this) ?_); intro g9 cap w9 hown1 hg1 hbel1 hgr1)
            have HN9 := Lib.hid (NE.push (NE.alloc HN8.out _) (OwnE.snoc hown1) hgr1)
            clear hown1 hg1 hbel1 hgr1
            exact ⟨⟨i, k + 1, E ++ [(⟨-1, k⟩ : Ed)], N + 1, _, by omega, by omega, by go_num, by go_num, HN9.out, by (rw [List.length_append, List.length_singleton]; omega), by omega, HWY.out.ins hkb⟩, by simp [intOf]; try omega⟩
        · have k1 : ¬ (k : Int) < (b.length : Int) := by omega
          have keq : ((k : Int) == (b.length : Int)) = true := beq_iff_eq.2 (by omega)
          rcases (show z = 0 ∨ z = 1 ∨ z = 2 by omega) with rfl | rfl | rfl
          all_goals
            go_wp2_with fail
            refine (HNX.out).mono ?_
            rintro e w7 ⟨rfl, hb7, hn7⟩
            have HN7 := Lib.hid (HN.out.call hb7 hn7)
            have HW7 := Lib.hid (HB0.out.trans (HN7.out.but.below (Nat.le_refl _) (by exact Nat.le_of_lt hgB)))
            have hz7 := HN7.out.but.size
            clear hb7 hn7 HNX HN
            go_wp2_with (at_builtin; go_must (refine wpList_app1 rfl (.tmp 113) (.tmp 116) 41 43 rfl Try.underlying41 _ 2 16 edit_info rfl (by decide) wn.heap.size _ _ _ rfl (by exact (NE.alloc HN7.out _).own) ⟨w7.heap.size, 0, none⟩ 1 (edC (⟨i, -1⟩)) rfl rfl (by exact cells_new _ _ _) (edC_one _) (by omega) (by decide) (by have := (NE.alloc HN7.out (.cells (edC ⟨i, -1⟩).toArray 43)).but.size; exact this) ?_); intro g9 cap w9 hown1 hg1 hbel1 hgr1)
            have HN9 := Lib.hid (NE.push (NE.alloc HN7.out _) (OwnE.snoc hown1) hgr1)
            clear hown1 hg1 hbel1 hgr1
            exact ⟨⟨i + 1, k, E ++ [(⟨i, -1⟩ : Ed)], N + 1, _, by omega, by omega, by go_num, by go_num, HN9.out, by (rw [List.length_append, List.length_singleton]; omega), by omega, HWY.out.del hia⟩, by simp [intOf]; try omega⟩
      · have hkb : k < b.length := by omega
        have i1 : ¬ (i : Int) < (a.length : Int) := by omega
        have k1 : (k : Int) < (b.length : Int) := by omega
        rcases (show z = 0 ∨ z = 1 ∨ z = 2 by omega) with rfl | rfl | rfl
        all_goals
          go_wp2_with fail
          refine (HNX.out).mono ?_
          rintro e w7 ⟨rfl, hb7, hn7⟩
          have HN7 := Lib.hid (HN.out.call hb7 hn7)
          have HW7 := Lib.hid (HB0.out.trans (HN7.out.but.below (Nat.le_refl _) (by exact Nat.le_of_lt hgB)))
          have hz7 := HN7.out.but.size
          clear hb7 hn7 HNX HN
          go_wp2_with (at_builtin; go_must (refine wpList_app1 rfl (.tmp 125) (.tmp 128) 41 43 rfl Try.underlying41 _ 2 16 edit_info rfl (by decide) wn.heap.size _ _ _ rfl (by exact (NE.alloc HN7.out _).own) ⟨w7.heap.size, 0, none⟩ 1 (edC (⟨-1, k⟩)) rfl rfl (by exact cells_new _ _ _) (edC_one _) (by omega) (by decide) (by have := (NE.alloc HN7.out (.cells (edC ⟨-1, k⟩).toArray 43)).but.size; exact this) ?_); intro g9 cap w9 hown1 hg1 hbel1 hgr1)
          have HN9 := Lib.hid (NE.push (NE.alloc HN7.out _) (OwnE.snoc hown1) hgr1)
          clear hown1 hg1 hbel1 hgr1
          exact ⟨⟨i, k + 1, E ++ [(⟨-1, k⟩ : Ed)], N + 1, _, by omega, by omega, by go_num, by go_num, HN9.out, by (rw [List.length_append, List.length_singleton]; omega), by omega, HWY.out.ins hkb⟩, by simp [intOf]; try omega⟩
    · have i1 : ¬ (i : Int) < (a.length : Int) := by omega
      have k1 : ¬ (k : Int) < (b.length : Int) := by omega
      obtain ⟨hpr, hge⟩ := HDD.out E i k s HWY.out (by omega) (by omega)
      have cp := fun (v u sv : Value) (w : World) (h : RdT w v a) (h' : RdT w u b) (hs : RdEd w sv E) => CP.out E (by omega) v u sv w h h' hs
      rw [hpr] at cp
      have CPE := Lib.hid cp
      clear cp hpr
      have RA := Lib.hid (RdE.below Ra_5.out HW.out (Nat.le_refl _))
      have RB := Lib.hid (RdE.below Rb_5.out HW.out (Nat.le_refl _))
      have RE := Lib.hid (OwnE.rd edC_two HN.out.own)
      have HBB := Lib.hid (B5.out.trans (HW.out.mono z5))
      obtain ⟨pq, hpq⟩ : ∃ pq : Int, s + 2 * supI a b = pq := ⟨_, rfl⟩
      rw [hpq] at hge CPE
      clear hpq
      go_wp2_with fail
      refine (CPE.out _ _ _ _ (by exact RA.out) (by exact RB.out) (by exact RE.out)).mono ?_
      rintro e w8 ⟨rfl, hb8⟩
      have HB8 := Lib.hid (HBB.out.trans (hb8.mono HBB.out.size))
      clear hb8
      go_wp2_with (go_at_call 12; refine (known12_any _).mono ?_; rintro e w' ⟨rfl, hb'⟩)
      go_ret
      exact ⟨rfl, HB8.out.trans (hb'.mono HB8.out.size)⟩

end Go.Proofs.Yteccphcophjhpaa
