
/-
  The price of a script: the reference's walk.
-/
import Derived.Test.YteccphcophjhpaaMathPriceB
import Derived.Test.YteccphcophjhpaaMathEd
import Derived.Test.YteccphcophjhpaaDistC
import Derived.Test.YteccphcophjhpaaFragA
import Derived.Test.YteccphcophjhpaaSlice
namespace Go.Proofs.Yteccphcophjhpaa
open Go.RowKit

/-- Two rows of tokens of the call's own, apart from each other. -/
structure TwoR (B : Nat) (w : World) (vo : Value) (o : List Tk) (vn : Value) (n : List Tk) (wx : World) : Prop where
  own : OwnE 23 tkC 3 wx B vo o
  ownN : OwnE 23 tkC 3 wx B vn n
  apart : Apart vo vn
  bel : Below B w wx
  base : B ≤ w.heap.size
section
variable {B : Nat} {w : World} {vo vo' vn vn' : Value} {o o' n n' : List Tk} {wx w' : World}
theorem TwoR.below (h : TwoR B w vo o vn n wx) (hb : Below wx.heap.size wx w') : TwoR B w vo o vn n w' :=
  ⟨own_below h.own hb (Nat.le_refl _), own_below h.ownN hb (Nat.le_refl _), h.apart, h.bel.trans (hb.mono (Nat.le_trans h.base h.bel.size)), h.base⟩
theorem TwoR.alloc (h : TwoR B w vo o vn n wx) (ob : Obj) : TwoR B w vo o vn n (wx.alloc ob) := h.below ((Below.refl _ _).alloc (Nat.le_refl _) ob)
theorem TwoR.pushO (h : TwoR B w vo o vn n wx) (hown : OwnE 23 tkC 3 w' B vo' o') (hbel : Below B w wx → Below B w w') (hgr : wx.grownBy w' vo.ownBlock) (hat : vo'.ownBlock = vo.ownBlock ∨ vo'.ownBlock = some wx.heap.size) : TwoR B w vo' o' vn n w' := by
  refine ⟨hown, own_same h.ownN fun k hk => hgr.block k (h.ownN.lt k hk).2 (fun e => h.apart k e.symm hk), fun k hk e => ?_, hbel h.bel, h.base⟩
  rcases hat with hat | hat
  · rw [hat] at hk; exact h.apart k hk e
  · rw [hat] at hk
    injection hk with hk
    have := (h.ownN.lt k e).2
    omega
theorem TwoR.pushN (h : TwoR B w vo o vn n wx) (hown : OwnE 23 tkC 3 w' B vn' n') (hbel : Below B w wx → Below B w w') (hgr : wx.grownBy w' vn.ownBlock) (hat : vn'.ownBlock = vn.ownBlock ∨ vn'.ownBlock = some wx.heap.size) : TwoR B w vo o vn' n' w' := by
  refine ⟨own_same h.own fun k hk => hgr.block k (h.own.lt k hk).2 (fun e => h.apart k hk e.symm), hown, fun k hk e => ?_, hbel h.bel, h.base⟩
  rcases hat with hat | hat
  · rw [hat] at e; exact h.apart k hk e
  · rw [hat] at e
    injection e with e
    have := (h.own.lt k hk).2
    omega
end

set_option maxRecDepth 100000 in
set_option maxHeartbeats 32000000 in
theorem rprice_any (a b : List Tk) (l : List Ed) (va vb vl : Value) (w : World) (ha : RdT w va a) (hb : RdT w vb b) (hl : RdEd w vl l) (hla : a.length ≤ 100000) (hlb : b.length ≤ 100000) (hll : l.length ≤ 9223372036854775807) (hia : ∀ x ∈ a, TkD x) (hib : ∀ x ∈ b, TkD x) :
    Calls Try.prog 24 #[va, vb, vl] w fun e w' => e = .returned (.tuple #[.int .i64 ((priceO a b l).getD 0), .bool (priceO a b l).isSome]) ∧ Below w.heap.size w w' := by
  obtain ⟨A, c, rfl, _, _⟩ := ha.shape
  obtain ⟨A2, c2, rfl, _, _⟩ := hb.shape
  obtain ⟨A3, c3, rfl, _, _⟩ := hl.shape
  have HA := Lib.hid ha
  have HB := Lib.hid hb
  have HL := Lib.hid hl
  have HIA := Lib.hid hia
  have HIB := Lib.hid hib
  have HP : Hid (priceO a b l = (rpF a b (l.drop 0) ⟨0, 0, 0, [], []⟩).bind (rpE a b)) := (price_ref a b l).symm
  generalize priceO a b l = tgt at HP
  have HT0 : Hid (TwoR w.heap.size w (.slice none 0 0) [] (.slice none 0 0) [] w) := ⟨OwnE.nil, OwnE.nil, fun k hk => (by cases hk), Below.refl _ _, Nat.le_refl _⟩
  clear ha hb hl hia hib
  go_enter Try.func24, Try.ntmps24
  go_wp2_with fail
  go_loopw [8, 9, 10, 11, 12, 25] (fun iv kv sv ov nv tv wr => ∃ (i k : Nat) (s : Int) (o n : List Tk) (t : Nat), t ≤ l.length ∧ tv = .int .i64 t ∧ iv = .int .i64 i ∧ kv = .int .i64 k ∧ sv = .int .i64 s ∧ i ≤ a.length ∧ k ≤ b.length ∧ 0 ≤ s ∧ s ≤ 4 * ((i : Int) + (k : Int)) ∧ o.length ≤ i ∧ n.length ≤ k ∧ TwoR w.heap.size w ov o nv n wr ∧ Hid (tgt = (rpF a b (l.drop t) ⟨i, k, s, o, n⟩).bind (rpE a b))) (fun _ _ _ _ _ tv _ => l.length - (intOf tv).toNat)
  case atStart => exact ⟨0, 0, 0, [], [], 0, Nat.zero_le _, rfl, rfl, rfl, rfl, Nat.zero_le _, Nat.zero_le _, Int.le_refl _, Int.le_refl _, Nat.zero_le _, Nat.zero_le _, HT0.out, HP.out⟩
  case round =>
    clear HP HT0
    obtain ⟨i, k, s, o, n, t, ht, rfl, rfl, rfl, rfl, hi0, hk0, hs2, hs3, hol, hnl, htr, HT⟩ := hrel
    obtain ⟨Ao, co, hvo⟩ := own_shape htr.own
    subst hvo
    obtain ⟨An, cn, hvn⟩ := own_shape htr.ownN
    subst hvn
    have HTW := Lib.hid htr
    have HBW := Lib.hid htr.bel
    clear htr
    have hsz := HBW.out.size
    by_cases htl : t < l.length
    · have HDR : Hid (l.drop t = l[t] :: l.drop (t + 1)) := Lib.hid (List.drop_eq_getElem_cons htl)
      rw [HDR.out, rpF_cons] at HT
      obtain ⟨b3, o3, rfl, hbl3, r1, r2⟩ := RdEd.at_ HL.out t htl
      rw [← HBW.out.cell (p := ⟨b3, o3 + t * 2, none⟩) hbl3] at r1
      rw [← HBW.out.cell (p := ⟨b3, o3 + t * 2 + 1, none⟩) hbl3] at r2
      generalize l[t] = ed at HT r1 r2
      obtain ⟨eA, eB⟩ := ed
      simp only at r1 r2
      have HTR := Lib.hid (HTW.out.alloc (.cells #[.int .i64 eA, .int .i64 eB] 43))
      have HBE := Lib.hid HTR.out.bel
      have hi1 : ((i : Int) == -1) = false := beq_eq_false_iff_ne.2 (by omega)
      have hk1 : ((k : Int) == -1) = false := beq_eq_false_iff_ne.2 (by omega)
      have hi2 : ((-1 : Int) == (i : Int)) = false := beq_eq_false_iff_ne.2 (by omega)
      have hk2 : ((-1 : Int) == (k : Int)) = false := beq_eq_false_iff_ne.2 (by omega)
      rcases ed_way' eA i a.length with ⟨rfl, g1⟩ | rfl | ⟨rfl, g1⟩ | ⟨g1, g2, g5, g3, g4⟩ <;> rcases ed_way' eB k b.length with ⟨rfl, j1⟩ | rfl | ⟨rfl, j1⟩ | ⟨j1, j2, j5, j3, j4⟩
      · obtain ⟨bb, ob, rfl, hbl, q1, q2, q3⟩ := RdT.at_ HA.out i g1
        rw [← HBE.out.cell (p := ⟨bb, ob + i * 3, none⟩) hbl] at q1
        rw [← HBE.out.cell (p := ⟨bb, ob + i * 3 + 1, none⟩) hbl] at q2
        rw [← HBE.out.cell (p := ⟨bb, ob + i * 3 + 2, none⟩) hbl] at q3
        have hxi := HIA.out a[i] (List.getElem_mem g1)
        obtain ⟨b2, o2, rfl, hbl2, p1, p2, p3⟩ := RdT.at_ HB.out k j1
        rw [← HBE.out.cell (p := ⟨b2, o2 + k * 3, none⟩) hbl2] at p1
        rw [← HBE.out.cell (p := ⟨b2, o2 + k * 3 + 1, none⟩) hbl2] at p2
        rw [← HBE.out.cell (p := ⟨b2, o2 + k * 3 + 2, none⟩) hbl2] at p3
        have hyi := HIB.out b[k] (List.getElem_mem j1)
        have HPO := Lib.hid (fun hc => rpS_pair (a := a) (b := b) (p := s) (o := o) (n := n) (e := ⟨i, k⟩) rfl g1 rfl j1 hc)
        have HPN := Lib.hid (fun hc => rpS_pairno (a := a) (b := b) (p := s) (o := o) (n := n) (e := ⟨i, k⟩) rfl g1 rfl j1 hc)
        generalize a[i] = x at q1 q2 q3 hxi HPO HPN
        obtain ⟨xk, xt, xd⟩ := x
        have hxt : xt.size ≤ maxLen := hxi.1
        clear hxi
        simp only at q1 q2 q3
        generalize b[k] = y at p1 p2 p3 hyi HPO HPN
        obtain ⟨yk, yt, yd⟩ := y
        have hyt : yt.size ≤ maxLen := hyi.1
        clear hyi
        simp only at p1 p2 p3
        have hcb := costV_bd ⟨xk, xt, xd⟩ ⟨yk, yt, yd⟩
        have hl0 : bb < (wr.alloc (.cells #[.int .i64 i, .int .i64 k] 43)).heap.size := by simp; omega
        have hl2 : b2 < (wr.alloc (.cells #[.int .i64 i, .int .i64 k] 43)).heap.size := by simp; omega
        have i1 : (i : Int) < (a.length : Int) := by omega
        have k1 : (k : Int) < (b.length : Int) := by omega
        by_cases hc : costOk ⟨xk, xt, xd⟩ ⟨yk, yt, yd⟩ = true
        · have HV := Lib.hid (costV_ok hc)
          have HT1 : Hid (tgt = (rpF a b (l.drop (t + 1)) ⟨i + 1, k + 1, s + costV ⟨xk, xt, xd⟩ ⟨yk, yt, yd⟩, o, n⟩).bind (rpE a b)) := by have h := HT.out; rw [HPO.out hc, ← HV.out] at h; exact h
          clear HT HPO HPN HV
          have u1 : IntKind.i64.wrap (s + costV ⟨xk, xt, xd⟩ ⟨yk, yt, yd⟩) = s + costV ⟨xk, xt, xd⟩ ⟨yk, yt, yd⟩ := by rw [IntKind.wrap_i64]; omega
          have e3 : IntKind.i64.wrap ((i : Int) + 1) = (i : Int) + 1 := by rw [IntKind.wrap_i64]; omega
          have f3 : IntKind.i64.wrap ((k : Int) + 1) = (k : Int) + 1 := by rw [IntKind.wrap_i64]; omega
          go_wp2_with fail
          generalize (wr.alloc (.cells #[.int .i64 i, .int .i64 k] 43)) = wq at HTR HBE hl0 hl2 q1 q2 q3 p1 p2 p3
          have KP : Hid (∀ X X' : World, Below X.heap.size X X' → (X.cell? ⟨bb, ob + i * 3, none⟩ = some (.int .i64 xk) ∧ X.cell? ⟨bb, ob + i * 3 + 1, none⟩ = some (.string xt) ∧ X.cell? ⟨bb, ob + i * 3 + 2, none⟩ = some (.int .i64 xd) ∧ X.cell? ⟨b2, o2 + k * 3, none⟩ = some (.int .i64 yk) ∧ X.cell? ⟨b2, o2 + k * 3 + 1, none⟩ = some (.string yt) ∧ X.cell? ⟨b2, o2 + k * 3 + 2, none⟩ = some (.int .i64 yd) ∧ Hid (Below wq.heap.size wq X ∧ bb < wq.heap.size ∧ b2 < wq.heap.size)) → (X'.cell? ⟨bb, ob + i * 3, none⟩ = some (.int .i64 xk) ∧ X'.cell? ⟨bb, ob + i * 3 + 1, none⟩ = some (.string xt) ∧ X'.cell? ⟨bb, ob + i * 3 + 2, none⟩ = some (.int .i64 xd) ∧ X'.cell? ⟨b2, o2 + k * 3, none⟩ = some (.int .i64 yk) ∧ X'.cell? ⟨b2, o2 + k * 3 + 1, none⟩ = some (.string yt) ∧ X'.cell? ⟨b2, o2 + k * 3 + 2, none⟩ = some (.int .i64 yd) ∧ Hid (Below wq.heap.size wq X' ∧ bb < wq.heap.size ∧ b2 < wq.heap.size))) := by
            rintro X X' hb ⟨q0, q1, q2, q3, q4, q5, hH⟩
            obtain ⟨hB, l0, l1⟩ := hH.out
            have hsz := hB.size
            exact ⟨(hb.cell (p := ⟨bb, ob + i * 3, none⟩) (Nat.lt_of_lt_of_le l0 hsz)).trans q0, (hb.cell (p := ⟨bb, ob + i * 3 + 1, none⟩) (Nat.lt_of_lt_of_le l0 hsz)).trans q1, (hb.cell (p := ⟨bb, ob + i * 3 + 2, none⟩) (Nat.lt_of_lt_of_le l0 hsz)).trans q2, (hb.cell (p := ⟨b2, o2 + k * 3, none⟩) (Nat.lt_of_lt_of_le l1 hsz)).trans q3, (hb.cell (p := ⟨b2, o2 + k * 3 + 1, none⟩) (Nat.lt_of_lt_of_le l1 hsz)).trans q4, (hb.cell (p := ⟨b2, o2 + k * 3 + 2, none⟩) (Nat.lt_of_lt_of_le l1 hsz)).trans q5, ⟨hB.trans (hb.mono hsz), l0, l1⟩⟩
          have KD : Hid (∀ X : World, (X.cell? ⟨bb, ob + i * 3, none⟩ = some (.int .i64 xk) ∧ X.cell? ⟨bb, ob + i * 3 + 1, none⟩ = some (.string xt) ∧ X.cell? ⟨bb, ob + i * 3 + 2, none⟩ = some (.int .i64 xd) ∧ X.cell? ⟨b2, o2 + k * 3, none⟩ = some (.int .i64 yk) ∧ X.cell? ⟨b2, o2 + k * 3 + 1, none⟩ = some (.string yt) ∧ X.cell? ⟨b2, o2 + k * 3 + 2, none⟩ = some (.int .i64 yd) ∧ Hid (Below wq.heap.size wq X ∧ bb < wq.heap.size ∧ b2 < wq.heap.size)) → (X.drew.cell? ⟨bb, ob + i * 3, none⟩ = some (.int .i64 xk) ∧ X.drew.cell? ⟨bb, ob + i * 3 + 1, none⟩ = some (.string xt) ∧ X.drew.cell? ⟨bb, ob + i * 3 + 2, none⟩ = some (.int .i64 xd) ∧ X.drew.cell? ⟨b2, o2 + k * 3, none⟩ = some (.int .i64 yk) ∧ X.drew.cell? ⟨b2, o2 + k * 3 + 1, none⟩ = some (.string yt) ∧ X.drew.cell? ⟨b2, o2 + k * 3 + 2, none⟩ = some (.int .i64 yd) ∧ Hid (Below wq.heap.size wq X.drew ∧ bb < wq.heap.size ∧ b2 < wq.heap.size))) := by
            rintro X ⟨q0, q1, q2, q3, q4, q5, hH⟩
            exact ⟨q0, q1, q2, q3, q4, q5, ⟨below_drewN hH.out.1 1, hH.out.2⟩⟩
          have K0 : Hid (wq.cell? ⟨bb, ob + i * 3, none⟩ = some (.int .i64 xk) ∧ wq.cell? ⟨bb, ob + i * 3 + 1, none⟩ = some (.string xt) ∧ wq.cell? ⟨bb, ob + i * 3 + 2, none⟩ = some (.int .i64 xd) ∧ wq.cell? ⟨b2, o2 + k * 3, none⟩ = some (.int .i64 yk) ∧ wq.cell? ⟨b2, o2 + k * 3 + 1, none⟩ = some (.string yt) ∧ wq.cell? ⟨b2, o2 + k * 3 + 2, none⟩ = some (.int .i64 yd) ∧ Hid (Below wq.heap.size wq wq ∧ bb < wq.heap.size ∧ b2 < wq.heap.size)) := ⟨(q1), (q2), (q3), (p1), (p2), (p3), ⟨Below.refl _ _, (hl0), (hl2)⟩⟩
          go_region_held3 (fun w' => w'.cell? ⟨bb, ob + i * 3, none⟩ = some (.int .i64 xk) ∧ w'.cell? ⟨bb, ob + i * 3 + 1, none⟩ = some (.string xt) ∧ w'.cell? ⟨bb, ob + i * 3 + 2, none⟩ = some (.int .i64 xd) ∧ w'.cell? ⟨b2, o2 + k * 3, none⟩ = some (.int .i64 yk) ∧ w'.cell? ⟨b2, o2 + k * 3 + 1, none⟩ = some (.string yt) ∧ w'.cell? ⟨b2, o2 + k * 3 + 2, none⟩ = some (.int .i64 yd) ∧ Hid (Below wq.heap.size wq w' ∧ bb < wq.heap.size ∧ b2 < wq.heap.size))
            (first | exact K0.out | exact KD.out _ K0.out | assumption | exact KP.out _ _ hb' (KD.out _ K0.out) | (refine KP.out _ _ hb' ?_; with_reducible_and_instances assumption) | (refine KD.out _ ?_; with_reducible_and_instances assumption))
            (first
              | (go_at_call 16; refine (rcost_any xk xd yk yd xt yt _ hxt hyt).mono ?_; rintro e w' ⟨rfl, hb'⟩))
          rename_i hh
          obtain ⟨t0, t1, t2, t3, t4, t5, tH⟩ := hh
          clear KP KD K0
          have HT2 := Lib.hid (HTR.out.below tH.out.1)
          clear t0 t1 t2 t3 t4 t5 tH
          go_wp2_with fail
          exact ⟨⟨i + 1, k + 1, s + costV ⟨xk, xt, xd⟩ ⟨yk, yt, yd⟩, o, n, t + 1, by omega, by go_num, by go_num, by go_num, rfl, by omega, by omega, by omega, by omega, by omega, by omega, HT2.out, HT1.out⟩, by simp [intOf]; try omega⟩
        · have hc' : costOk ⟨xk, xt, xd⟩ ⟨yk, yt, yd⟩ = false := by simpa using hc
          have HN : Hid (tgt = none) := by have h := HT.out; rw [HPN.out hc'] at h; exact h
          clear hc HT HPO HPN
          go_wp2_with fail
          generalize (wr.alloc (.cells #[.int .i64 i, .int .i64 k] 43)) = wq at HTR HBE hl0 hl2 q1 q2 q3 p1 p2 p3
          have KP : Hid (∀ X X' : World, Below X.heap.size X X' → (X.cell? ⟨bb, ob + i * 3, none⟩ = some (.int .i64 xk) ∧ X.cell? ⟨bb, ob + i * 3 + 1, none⟩ = some (.string xt) ∧ X.cell? ⟨bb, ob + i * 3 + 2, none⟩ = some (.int .i64 xd) ∧ X.cell? ⟨b2, o2 + k * 3, none⟩ = some (.int .i64 yk) ∧ X.cell? ⟨b2, o2 + k * 3 + 1, none⟩ = some (.string yt) ∧ X.cell? ⟨b2, o2 + k * 3 + 2, none⟩ = some (.int .i64 yd) ∧ Hid (Below wq.heap.size wq X ∧ bb < wq.heap.size ∧ b2 < wq.heap.size)) → (X'.cell? ⟨bb, ob + i * 3, none⟩ = some (.int .i64 xk) ∧ X'.cell? ⟨bb, ob + i * 3 + 1, none⟩ = some (.string xt) ∧ X'.cell? ⟨bb, ob + i * 3 + 2, none⟩ = some (.int .i64 xd) ∧ X'.cell? ⟨b2, o2 + k * 3, none⟩ = some (.int .i64 yk) ∧ X'.cell? ⟨b2, o2 + k * 3 + 1, none⟩ = some (.string yt) ∧ X'.cell? ⟨b2, o2 + k * 3 + 2, none⟩ = some (.int .i64 yd) ∧ Hid (Below wq.heap.size wq X' ∧ bb < wq.heap.size ∧ b2 < wq.heap.size))) := by
            rintro X X' hb ⟨q0, q1, q2, q3, q4, q5, hH⟩
            obtain ⟨hB, l0, l1⟩ := hH.out
            have hsz := hB.size
            exact ⟨(hb.cell (p := ⟨bb, ob + i * 3, none⟩) (Nat.lt_of_lt_of_le l0 hsz)).trans q0, (hb.cell (p := ⟨bb, ob + i * 3 + 1, none⟩) (Nat.lt_of_lt_of_le l0 hsz)).trans q1, (hb.cell (p := ⟨bb, ob + i * 3 + 2, none⟩) (Nat.lt_of_lt_of_le l0 hsz)).trans q2, (hb.cell (p := ⟨b2, o2 + k * 3, none⟩) (Nat.lt_of_lt_of_le l1 hsz)).trans q3, (hb.cell (p := ⟨b2, o2 + k * 3 + 1, none⟩) (Nat.lt_of_lt_of_le l1 hsz)).trans q4, (hb.cell (p := ⟨b2, o2 + k * 3 + 2, none⟩) (Nat.lt_of_lt_of_le l1 hsz)).trans q5, ⟨hB.trans (hb.mono hsz), l0, l1⟩⟩
          have KD : Hid (∀ X : World, (X.cell? ⟨bb, ob + i * 3, none⟩ = some (.int .i64 xk) ∧ X.cell? ⟨bb, ob + i * 3 + 1, none⟩ = some (.string xt) ∧ X.cell? ⟨bb, ob + i * 3 + 2, none⟩ = some (.int .i64 xd) ∧ X.cell? ⟨b2, o2 + k * 3, none⟩ = some (.int .i64 yk) ∧ X.cell? ⟨b2, o2 + k * 3 + 1, none⟩ = some (.string yt) ∧ X.cell? ⟨b2, o2 + k * 3 + 2, none⟩ = some (.int .i64 yd) ∧ Hid (Below wq.heap.size wq X ∧ bb < wq.heap.size ∧ b2 < wq.heap.size)) → (X.drew.cell? ⟨bb, ob + i * 3, none⟩ = some (.int .i64 xk) ∧ X.drew.cell? ⟨bb, ob + i * 3 + 1, none⟩ = some (.string xt) ∧ X.drew.cell? ⟨bb, ob + i * 3 + 2, none⟩ = some (.int .i64 xd) ∧ X.drew.cell? ⟨b2, o2 + k * 3, none⟩ = some (.int .i64 yk) ∧ X.drew.cell? ⟨b2, o2 + k * 3 + 1, none⟩ = some (.string yt) ∧ X.drew.cell? ⟨b2, o2 + k * 3 + 2, none⟩ = some (.int .i64 yd) ∧ Hid (Below wq.heap.size wq X.drew ∧ bb < wq.heap.size ∧ b2 < wq.heap.size))) := by
            rintro X ⟨q0, q1, q2, q3, q4, q5, hH⟩
            exact ⟨q0, q1, q2, q3, q4, q5, ⟨below_drewN hH.out.1 1, hH.out.2⟩⟩
          have K0 : Hid (wq.cell? ⟨bb, ob + i * 3, none⟩ = some (.int .i64 xk) ∧ wq.cell? ⟨bb, ob + i * 3 + 1, none⟩ = some (.string xt) ∧ wq.cell? ⟨bb, ob + i * 3 + 2, none⟩ = some (.int .i64 xd) ∧ wq.cell? ⟨b2, o2 + k * 3, none⟩ = some (.int .i64 yk) ∧ wq.cell? ⟨b2, o2 + k * 3 + 1, none⟩ = some (.string yt) ∧ wq.cell? ⟨b2, o2 + k * 3 + 2, none⟩ = some (.int .i64 yd) ∧ Hid (Below wq.heap.size wq wq ∧ bb < wq.heap.size ∧ b2 < wq.heap.size)) := ⟨(q1), (q2), (q3), (p1), (p2), (p3), ⟨Below.refl _ _, (hl0), (hl2)⟩⟩
          go_region_held3 (fun w' => w'.cell? ⟨bb, ob + i * 3, none⟩ = some (.int .i64 xk) ∧ w'.cell? ⟨bb, ob + i * 3 + 1, none⟩ = some (.string xt) ∧ w'.cell? ⟨bb, ob + i * 3 + 2, none⟩ = some (.int .i64 xd) ∧ w'.cell? ⟨b2, o2 + k * 3, none⟩ = some (.int .i64 yk) ∧ w'.cell? ⟨b2, o2 + k * 3 + 1, none⟩ = some (.string yt) ∧ w'.cell? ⟨b2, o2 + k * 3 + 2, none⟩ = some (.int .i64 yd) ∧ Hid (Below wq.heap.size wq w' ∧ bb < wq.heap.size ∧ b2 < wq.heap.size))
            (first | exact K0.out | exact KD.out _ K0.out | assumption | exact KP.out _ _ hb' (KD.out _ K0.out) | (refine KP.out _ _ hb' ?_; with_reducible_and_instances assumption) | (refine KD.out _ ?_; with_reducible_and_instances assumption))
            (first
              | (go_at_call 16; refine (rcost_any xk xd yk yd xt yt _ hxt hyt).mono ?_; rintro e w' ⟨rfl, hb'⟩))
          rename_i hh
          obtain ⟨t0, t1, t2, t3, t4, t5, tH⟩ := hh
          clear KP KD K0
          have HT2 := Lib.hid (HTR.out.below tH.out.1)
          clear t0 t1 t2 t3 t4 t5 tH
          go_wp2_with fail
          go_ret2
          exact ⟨by rw [HN.out]; rfl, HT2.out.bel⟩
      · obtain ⟨bb, ob, rfl, hbl, q1, q2, q3⟩ := RdT.at_ HA.out i g1
        rw [← HBE.out.cell (p := ⟨bb, ob + i * 3, none⟩) hbl] at q1
        rw [← HBE.out.cell (p := ⟨bb, ob + i * 3 + 1, none⟩) hbl] at q2
        rw [← HBE.out.cell (p := ⟨bb, ob + i * 3 + 2, none⟩) hbl] at q3
        have hxi := HIA.out a[i] (List.getElem_mem g1)
        have HPO := Lib.hid (rpS_del (a := a) (b := b) (k := k) (p := s) (o := o) (n := n) (e := ⟨i, -1⟩) rfl g1 rfl)
        generalize a[i] = x at q1 q2 q3 hxi HPO
        obtain ⟨xk, xt, xd⟩ := x
        have hxt : xt.size ≤ maxLen := hxi.1
        clear hxi
        simp only at q1 q2 q3
        have HT1 : Hid (tgt = (rpF a b (l.drop (t + 1)) ⟨i + 1, k, s, o ++ [⟨xk, xt, xd⟩], n⟩).bind (rpE a b)) := by have h := HT.out; rw [HPO.out] at h; exact h
        clear HT HPO
        have i1 : (i : Int) < (a.length : Int) := by omega
        have e3 : IntKind.i64.wrap ((i : Int) + 1) = (i : Int) + 1 := by rw [IntKind.wrap_i64]; omega
        go_wp2_with (at_builtin; go_must (refine wpList_appAt rfl (.tmp 70) (.tmp 75) 26 23 rfl Try.underlying26 _ tkC 3 32 tok_info rfl (by decide) tkC_three tkC_one w.heap.size _ o rfl (by exact (TwoR.alloc HTR.out _).own) (.slice (some ⟨wr.heap.size + 1, 0, none⟩) 1 1) [⟨xk, xt, xd⟩] rfl (by exact RdT.one_at _ _ (by simp) ⟨xk, xt, xd⟩ 23) (by show (_ + 1) * 32 ≤ _; omega) (by decide) (by have := (TwoR.alloc HTR.out (.cells (tkC ⟨xk, xt, xd⟩).toArray 23)).bel.size; exact this) ?_); intro v9 w9 hown9 hbel9 hgr9 hat9; have HT9 := Lib.hid (TwoR.pushO (TwoR.alloc HTR.out _) hown9 (fun hb => hbel9 _ _ (Nat.le_refl _) hb) hgr9 hat9); clear hown9 hbel9 hgr9 hat9)
        exact ⟨⟨i + 1, k, s, o ++ [(⟨xk, xt, xd⟩ : Tk)], n, t + 1, by omega, by go_num, by go_num, by go_num, rfl, by omega, by omega, by omega, by omega, by (rw [List.length_append, List.length_singleton]; omega), by omega, HT9.out, HT1.out⟩, by simp [intOf]; try omega⟩
      · have HN : Hid (tgt = none) := by have h := HT.out; rw [rpS_bad (by refine ⟨?_, ?_, ?_⟩ <;> simp only <;> omega)] at h; exact h
        (try clear g3 g4)
        (try clear j3 j4)
        go_wp2_with fail
        go_ret2
        exact ⟨by rw [HN.out]; rfl, HBE.out⟩
      · have HN : Hid (tgt = none) := by have h := HT.out; rw [rpS_bad (by refine ⟨?_, ?_, ?_⟩ <;> simp only <;> omega)] at h; exact h
        (try clear g3 g4)
        (try clear j3 j4)
        go_wp2_with fail
        go_ret2
        exact ⟨by rw [HN.out]; rfl, HBE.out⟩
      · obtain ⟨b2, o2, rfl, hbl2, p1, p2, p3⟩ := RdT.at_ HB.out k j1
        rw [← HBE.out.cell (p := ⟨b2, o2 + k * 3, none⟩) hbl2] at p1
        rw [← HBE.out.cell (p := ⟨b2, o2 + k * 3 + 1, none⟩) hbl2] at p2
        rw [← HBE.out.cell (p := ⟨b2, o2 + k * 3 + 2, none⟩) hbl2] at p3
        have hyi := HIB.out b[k] (List.getElem_mem j1)
        have HPO := Lib.hid (rpS_ins (a := a) (b := b) (i := i) (p := s) (o := o) (n := n) (e := ⟨-1, k⟩) rfl rfl j1)
        generalize b[k] = y at p1 p2 p3 hyi HPO
        obtain ⟨yk, yt, yd⟩ := y
        have hyt : yt.size ≤ maxLen := hyi.1
        clear hyi
        simp only at p1 p2 p3
        have HT1 : Hid (tgt = (rpF a b (l.drop (t + 1)) ⟨i, k + 1, s, o, n ++ [⟨yk, yt, yd⟩]⟩).bind (rpE a b)) := by have h := HT.out; rw [HPO.out] at h; exact h
        clear HT HPO
        have k1 : (k : Int) < (b.length : Int) := by omega
        have f3 : IntKind.i64.wrap ((k : Int) + 1) = (k : Int) + 1 := by rw [IntKind.wrap_i64]; omega
        go_wp2_with (at_builtin; go_must (refine wpList_appAt rfl (.tmp 45) (.tmp 50) 26 23 rfl Try.underlying26 _ tkC 3 32 tok_info rfl (by decide) tkC_three tkC_one w.heap.size _ n rfl (by exact (TwoR.alloc HTR.out _).ownN) (.slice (some ⟨wr.heap.size + 1, 0, none⟩) 1 1) [⟨yk, yt, yd⟩] rfl (by exact RdT.one_at _ _ (by simp) ⟨yk, yt, yd⟩ 23) (by show (_ + 1) * 32 ≤ _; omega) (by decide) (by have := (TwoR.alloc HTR.out (.cells (tkC ⟨yk, yt, yd⟩).toArray 23)).bel.size; exact this) ?_); intro v9 w9 hown9 hbel9 hgr9 hat9; have HT9 := Lib.hid (TwoR.pushN (TwoR.alloc HTR.out _) hown9 (fun hb => hbel9 _ _ (Nat.le_refl _) hb) hgr9 hat9); clear hown9 hbel9 hgr9 hat9)
        exact ⟨⟨i, k + 1, s, o, n ++ [(⟨yk, yt, yd⟩ : Tk)], t + 1, by omega, by go_num, by go_num, by go_num, rfl, by omega, by omega, by omega, by omega, by omega, by (rw [List.length_append, List.length_singleton]; omega), HT9.out, HT1.out⟩, by simp [intOf]; try omega⟩
      · have HN : Hid (tgt = none) := by have h := HT.out; rw [rpS_bad (by refine ⟨?_, ?_, ?_⟩ <;> simp only <;> omega)] at h; exact h
        (try clear g3 g4)
        (try clear j3 j4)
        go_wp2_with fail
        go_ret2
        exact ⟨by rw [HN.out]; rfl, HBE.out⟩
      · have HN : Hid (tgt = none) := by have h := HT.out; rw [rpS_bad (by refine ⟨?_, ?_, ?_⟩ <;> simp only <;> omega)] at h; exact h
        (try clear g3 g4)
        (try clear j3 j4)
        go_wp2_with fail
        go_ret2
        exact ⟨by rw [HN.out]; rfl, HBE.out⟩
      · have HN : Hid (tgt = none) := by have h := HT.out; rw [rpS_bad (by refine ⟨?_, ?_, ?_⟩ <;> simp only <;> omega)] at h; exact h
        (try clear g3 g4)
        (try clear j3 j4)
        go_wp2_with fail
        go_ret2
        exact ⟨by rw [HN.out]; rfl, HBE.out⟩
      · have HN : Hid (tgt = none) := by have h := HT.out; rw [rpS_bad (by refine ⟨?_, ?_, ?_⟩ <;> simp only <;> omega)] at h; exact h
        (try clear g3 g4)
        (try clear j3 j4)
        go_wp2_with fail
        go_ret2
        exact ⟨by rw [HN.out]; rfl, HBE.out⟩
      · have HN : Hid (tgt = none) := by have h := HT.out; rw [rpS_bad (by refine ⟨?_, ?_, ?_⟩ <;> simp only <;> omega)] at h; exact h
        (try clear g3 g4)
        (try clear j3 j4)
        go_wp2_with fail
        go_ret2
        exact ⟨by rw [HN.out]; rfl, HBE.out⟩
      · have HN : Hid (tgt = none) := by have h := HT.out; rw [rpS_bad (by refine ⟨?_, ?_, ?_⟩ <;> simp only <;> omega)] at h; exact h
        (try clear g3 g4)
        (try clear j3 j4)
        go_wp2_with fail
        go_ret2
        exact ⟨by rw [HN.out]; rfl, HBE.out⟩
      · have HN : Hid (tgt = none) := by have h := HT.out; rw [rpS_bad (by refine ⟨?_, ?_, ?_⟩ <;> simp only <;> omega)] at h; exact h
        (try clear g3 g4)
        (try clear j3 j4)
        go_wp2_with fail
        go_ret2
        exact ⟨by rw [HN.out]; rfl, HBE.out⟩
      · have HN : Hid (tgt = none) := by have h := HT.out; rw [rpS_bad (by refine ⟨?_, ?_, ?_⟩ <;> simp only <;> omega)] at h; exact h
        (try clear g3 g4)
        (try clear j3 j4)
        go_wp2_with fail
        go_ret2
        exact ⟨by rw [HN.out]; rfl, HBE.out⟩
      · have HN : Hid (tgt = none) := by have h := HT.out; rw [rpS_bad (by refine ⟨?_, ?_, ?_⟩ <;> simp only <;> omega)] at h; exact h
        (try clear g3 g4)
        (try clear j3 j4)
        go_wp2_with fail
        go_ret2
        exact ⟨by rw [HN.out]; rfl, HBE.out⟩
      · have HN : Hid (tgt = none) := by have h := HT.out; rw [rpS_bad (by refine ⟨?_, ?_, ?_⟩ <;> simp only <;> omega)] at h; exact h
        (try clear g3 g4)
        (try clear j3 j4)
        go_wp2_with fail
        go_ret2
        exact ⟨by rw [HN.out]; rfl, HBE.out⟩
      · have HN : Hid (tgt = none) := by have h := HT.out; rw [rpS_bad (by refine ⟨?_, ?_, ?_⟩ <;> simp only <;> omega)] at h; exact h
        (try clear g3 g4)
        (try clear j3 j4)
        go_wp2_with fail
        go_ret2
        exact ⟨by rw [HN.out]; rfl, HBE.out⟩
    · have htl' : l.length ≤ t := by omega
      have HE : Hid (tgt = rpE a b ⟨i, k, s, o, n⟩) := by have h := HT.out; rw [List.drop_of_length_le htl'] at h; exact h
      have hte : ¬ (t : Int) < (l.length : Int) := by omega
      clear HT
      by_cases hab : i < a.length ∨ k < b.length
      · have HN : Hid (tgt = none) := by have h := HE.out; unfold rpE at h; rw [if_neg (by simp only; omega)] at h; exact h
        rcases hab with hab | hab
        · have ne1 : ((i : Int) != (a.length : Int)) = true := bne_iff_ne.2 (by omega)
          go_wp2_with fail
          go_ret2
          exact ⟨by rw [HN.out]; rfl, HBW.out⟩
        · have ne2 : ((k : Int) != (b.length : Int)) = true := bne_iff_ne.2 (by omega)
          by_cases hia : i < a.length
          · have ne1 : ((i : Int) != (a.length : Int)) = true := bne_iff_ne.2 (by omega)
            go_wp2_with fail
            go_ret2
            exact ⟨by rw [HN.out]; rfl, HBW.out⟩
          · have ne1 : ((i : Int) != (a.length : Int)) = false := bne_eq_false_iff_eq.2 (by omega)
            go_wp2_with fail
            go_ret2
            exact ⟨by rw [HN.out]; rfl, HBW.out⟩
      · have HN : Hid (tgt = some (s + rO o n o.length + rI o n n.length)) := by have h := HE.out; unfold rpE at h; rw [if_pos (by simp only; omega)] at h; exact h
        have ne1 : ((i : Int) != (a.length : Int)) = false := bne_eq_false_iff_eq.2 (by omega)
        have ne2 : ((k : Int) != (b.length : Int)) = false := bne_eq_false_iff_eq.2 (by omega)
        have RO := Lib.hid (OwnE.rd tkC_three HTW.out.own)
        have RN := Lib.hid (OwnE.rd tkC_three HTW.out.ownN)
        have hco := RdE.cap RO.out
        have hcn := RdE.cap RN.out
        have HBA := HBW
        clear HE HTW
        go_wp2_with fail
        clear ne1 ne2
        obtain ⟨wA, hwA⟩ : ∃ wA : World, wA = wr := ⟨_, rfl⟩
        rw [← hwA] at RO RN HBA hsz
        go_loopw [10, 136] (fun sv jv wz => ∃ j : Nat, j ≤ o.length ∧ jv = .int .i64 j ∧ sv = .int .i64 (s + rO o n j) ∧ Hid (Below wA.heap.size wA wz)) (fun _ jv _ => o.length - (intOf jv).toNat)
        case atStart => exact ⟨0, Nat.zero_le _, rfl, by rw [rO_zero, Int.add_zero], by rw [hwA]; exact Below.refl _ _⟩
        case round =>
          clear hwA HBW
          obtain ⟨wz, rfl⟩ : ∃ wz : World, wz = wr := ⟨_, rfl⟩
          obtain ⟨j, hj, rfl, rfl, HB⟩ := hrel
          have hzz := HB.out.size
          have sm1 := rO_small o n j hj
          by_cases hjl : j < o.length
          · have sm2 := rO_small o n (j + 1) (by omega)
            have RT' := RdE.below RO.out HB.out (Nat.le_refl _)
            obtain ⟨bb, ob, hA', hbl, q1, q2, q3⟩ := RdT.at_ RT' j hjl
            clear RT'
            have HTAG := Lib.hid (fun ht hs => rO_tag o n j hjl ht hs)
            have HSEEN := Lib.hid (fun ht hs => rO_seen o n j hjl ht hs)
            have HNONE := Lib.hid (fun ht => rO_none o n j hjl ht)
            generalize o[j] = x at q1 q2 q3 HTAG HSEEN HNONE
            obtain ⟨xk, xt, xd⟩ := x
            simp only at q1 q2 q3
            have hlx : wz.heap.size < (wz.alloc (.cells #[.int .i64 xk, .string xt, .int .i64 xd] 23)).heap.size := by simp
            have HXB : Hid ((wz.alloc (.cells #[.int .i64 xk, .string xt, .int .i64 xd] 23)).heap[wz.heap.size]? = some (.cells #[.int .i64 xk, .string xt, .int .i64 xd] 23)) := Array.getElem?_push_size
            have HBQ := Lib.hid (HB.out.alloc hzz (.cells #[.int .i64 xk, .string xt, .int .i64 xd] 23))
            have hwt := weightI_bd xk
            have j1 : (j : Int) < (o.length : Int) := by omega
            have ek0 : j ≤ co := by omega
            have ekc : (j : Int) ≤ (co : Int) := by omega
            have t1 := timesN_le o ⟨xk, xt, xd⟩
            have t2 := timesN_le n ⟨xk, xt, xd⟩
            have t3 := timesN_le (o.take j) ⟨xk, xt, xd⟩
            rw [List.length_take] at t3
            subst hA'
            go_wp2_with fail
            refine (risTag_any xk xd xt _).mono ?_
            rintro e w1 ⟨rfl, hb1⟩
            have HX1 := Lib.hid ((hb1.block wz.heap.size hlx).trans HXB.out)
            have HB1 := Lib.hid (HBQ.out.trans (hb1.mono HBQ.out.size))
            have hz1 := HB1.out.size
            have hlx1 : wz.heap.size < w1.heap.size := Nat.lt_of_lt_of_le hlx hb1.size
            clear hb1 HXB HBQ q1 q2 q3 hlx
            have hlx := hlx1
            clear hlx1
            have RO1 := Lib.hid (RdE.below RO.out HB1.out (Nat.le_refl _))
            have RN1 := Lib.hid (RdE.below RN.out HB1.out (Nat.le_refl _))
            have RT1 := Lib.hid (RdE.take RO1.out j hj)
            obtain ⟨x0, x1, x2⟩ := tbox HX1.out
            by_cases ht : isTagB ⟨xk, xt, xd⟩ = true
            · by_cases hs : timesN (o.take j) ⟨xk, xt, xd⟩ = 0
              · have HST := Lib.hid (HTAG.out ht hs)
                have hse : ((timesN (o.take j) ⟨xk, xt, xd⟩ : Int) == 0) = true := by simp; omega
                clear hs HTAG HSEEN HNONE
                go_wp2_with fail
                have KP : Hid (∀ X X' : World, Below X.heap.size X X' → (X.cell? ⟨wz.heap.size, 0, none⟩ = some (.int .i64 xk) ∧ X.cell? ⟨wz.heap.size, 1, none⟩ = some (.string xt) ∧ X.cell? ⟨wz.heap.size, 2, none⟩ = some (.int .i64 xd) ∧ Hid (Below w1.heap.size w1 X ∧ wz.heap.size < w1.heap.size)) → (X'.cell? ⟨wz.heap.size, 0, none⟩ = some (.int .i64 xk) ∧ X'.cell? ⟨wz.heap.size, 1, none⟩ = some (.string xt) ∧ X'.cell? ⟨wz.heap.size, 2, none⟩ = some (.int .i64 xd) ∧ Hid (Below w1.heap.size w1 X' ∧ wz.heap.size < w1.heap.size))) := by
                  rintro X X' hb ⟨q0, q1, q2, hH⟩
                  obtain ⟨hB, l0⟩ := hH.out
                  have hsz := hB.size
                  exact ⟨(hb.cell (p := ⟨wz.heap.size, 0, none⟩) (Nat.lt_of_lt_of_le l0 hsz)).trans q0, (hb.cell (p := ⟨wz.heap.size, 1, none⟩) (Nat.lt_of_lt_of_le l0 hsz)).trans q1, (hb.cell (p := ⟨wz.heap.size, 2, none⟩) (Nat.lt_of_lt_of_le l0 hsz)).trans q2, ⟨hB.trans (hb.mono hsz), l0⟩⟩
                have KD : Hid (∀ X : World, (X.cell? ⟨wz.heap.size, 0, none⟩ = some (.int .i64 xk) ∧ X.cell? ⟨wz.heap.size, 1, none⟩ = some (.string xt) ∧ X.cell? ⟨wz.heap.size, 2, none⟩ = some (.int .i64 xd) ∧ Hid (Below w1.heap.size w1 X ∧ wz.heap.size < w1.heap.size)) → (X.drew.cell? ⟨wz.heap.size, 0, none⟩ = some (.int .i64 xk) ∧ X.drew.cell? ⟨wz.heap.size, 1, none⟩ = some (.string xt) ∧ X.drew.cell? ⟨wz.heap.size, 2, none⟩ = some (.int .i64 xd) ∧ Hid (Below w1.heap.size w1 X.drew ∧ wz.heap.size < w1.heap.size))) := by
                  rintro X ⟨q0, q1, q2, hH⟩
                  exact ⟨q0, q1, q2, ⟨below_drewN hH.out.1 1, hH.out.2⟩⟩
                have KB : Hid (∀ X : World, (X.cell? ⟨wz.heap.size, 0, none⟩ = some (.int .i64 xk) ∧ X.cell? ⟨wz.heap.size, 1, none⟩ = some (.string xt) ∧ X.cell? ⟨wz.heap.size, 2, none⟩ = some (.int .i64 xd) ∧ Hid (Below w1.heap.size w1 X ∧ wz.heap.size < w1.heap.size)) → Below w1.heap.size w1 X) := fun X h => h.2.2.2.out.1
                have K0 : Hid (w1.cell? ⟨wz.heap.size, 0, none⟩ = some (.int .i64 xk) ∧ w1.cell? ⟨wz.heap.size, 1, none⟩ = some (.string xt) ∧ w1.cell? ⟨wz.heap.size, 2, none⟩ = some (.int .i64 xd) ∧ Hid (Below w1.heap.size w1 w1 ∧ wz.heap.size < w1.heap.size)) := ⟨(x0), (x1), (x2), ⟨Below.refl _ _, (hlx)⟩⟩
                go_region_held3 (fun w' => w'.cell? ⟨wz.heap.size, 0, none⟩ = some (.int .i64 xk) ∧ w'.cell? ⟨wz.heap.size, 1, none⟩ = some (.string xt) ∧ w'.cell? ⟨wz.heap.size, 2, none⟩ = some (.int .i64 xd) ∧ Hid (Below w1.heap.size w1 w' ∧ wz.heap.size < w1.heap.size))
                  (first | exact K0.out | exact KD.out _ K0.out | assumption | exact KP.out _ _ hb' (KD.out _ K0.out) | (refine KP.out _ _ hb' ?_; with_reducible_and_instances assumption) | (refine KD.out _ ?_; with_reducible_and_instances assumption))
                  (first
                    | (go_at_call 43; (first | (refine (times_any (o.take j) ⟨xk, xt, xd⟩ _ _ (by first | exact RT1.out | exact RdE.drew RT1.out | exact RdE.below RT1.out (KB.out _ (by assumption)) (Nat.le_refl _)) (by first | omega | (rw [List.length_take]; omega))).mono ?_)); rintro e w' ⟨rfl, hb'⟩))
                rename_i hh
                obtain ⟨t0, t1', t2', tH⟩ := hh
                clear KP KD K0 KB
                obtain ⟨w2, rfl⟩ : ∃ wz : World, wz = w' := ⟨_, rfl⟩
                have HB2 := Lib.hid (HB1.out.trans (tH.out.1.mono hz1))
                have hz2 := HB2.out.size
                have hlx2 : wz.heap.size < w2.heap.size := Nat.lt_of_lt_of_le hlx tH.out.1.size
                have RO2 := Lib.hid (RdE.below RO.out HB2.out (Nat.le_refl _))
                have RN2 := Lib.hid (RdE.below RN.out HB2.out (Nat.le_refl _))
                clear hlx x0 x1 x2 tH HB1 hz1 RO1 RN1 RT1 hse
                have hlx := hlx2
                have x0 := t0
                have x1 := t1'
                have x2 := t2'
                clear hlx2 t0 t1' t2'
                obtain ⟨p, hp⟩ : ∃ p : Nat, timesN o ⟨xk, xt, xd⟩ = p := ⟨_, rfl⟩
                obtain ⟨q, hq⟩ : ∃ q : Nat, timesN n ⟨xk, xt, xd⟩ = q := ⟨_, rfl⟩
                have CO := Lib.hid (fun (v : Value) (w : World) (h : RdT w v o) => times_any o ⟨xk, xt, xd⟩ v w h (by omega))
                have CN := Lib.hid (fun (v : Value) (w : World) (h : RdT w v n) => times_any n ⟨xk, xt, xd⟩ v w h (by omega))
                rw [hp] at CO HST t1
                rw [hq] at CN HST t2
                clear hp hq
                rcases (show p < q ∨ q < p ∨ p = q by omega) with ho | ho | rfl
                · have HST' : Hid (rO o n (j + 1) = rO o n j + (2 * (p : Int) + 3 * ((q : Int) - (p : Int)))) := by have h := HST.out; show _ = _; omega
                  clear HST
                  have u0 : IntKind.i64.wrap (2 * (p : Int)) = 2 * (p : Int) := by rw [IntKind.wrap_i64]; omega
                  have u1 : IntKind.i64.wrap ((q : Int) - (p : Int)) = (q : Int) - (p : Int) := by rw [IntKind.wrap_i64]; omega
                  have u2 : IntKind.i64.wrap (3 * ((q : Int) - (p : Int))) = 3 * ((q : Int) - (p : Int)) := by rw [IntKind.wrap_i64]; omega
                  have u3 : IntKind.i64.wrap (2 * (p : Int) + 3 * ((q : Int) - (p : Int))) = 2 * (p : Int) + 3 * ((q : Int) - (p : Int)) := by rw [IntKind.wrap_i64]; omega
                  have u4 : IntKind.i64.wrap (s + rO o n j + (2 * (p : Int) + 3 * ((q : Int) - (p : Int)))) = s + rO o n j + (2 * (p : Int) + 3 * ((q : Int) - (p : Int))) := by rw [IntKind.wrap_i64]; omega
                  go_wp2_with fail
                  have KP : Hid (∀ X X' : World, Below X.heap.size X X' → (X.cell? ⟨wz.heap.size, 0, none⟩ = some (.int .i64 xk) ∧ X.cell? ⟨wz.heap.size, 1, none⟩ = some (.string xt) ∧ X.cell? ⟨wz.heap.size, 2, none⟩ = some (.int .i64 xd) ∧ Hid (Below w2.heap.size w2 X ∧ wz.heap.size < w2.heap.size)) → (X'.cell? ⟨wz.heap.size, 0, none⟩ = some (.int .i64 xk) ∧ X'.cell? ⟨wz.heap.size, 1, none⟩ = some (.string xt) ∧ X'.cell? ⟨wz.heap.size, 2, none⟩ = some (.int .i64 xd) ∧ Hid (Below w2.heap.size w2 X' ∧ wz.heap.size < w2.heap.size))) := by
                    rintro X X' hb ⟨q0, q1, q2, hH⟩
                    obtain ⟨hB, l0⟩ := hH.out
                    have hsz := hB.size
                    exact ⟨(hb.cell (p := ⟨wz.heap.size, 0, none⟩) (Nat.lt_of_lt_of_le l0 hsz)).trans q0, (hb.cell (p := ⟨wz.heap.size, 1, none⟩) (Nat.lt_of_lt_of_le l0 hsz)).trans q1, (hb.cell (p := ⟨wz.heap.size, 2, none⟩) (Nat.lt_of_lt_of_le l0 hsz)).trans q2, ⟨hB.trans (hb.mono hsz), l0⟩⟩
                  have KD : Hid (∀ X : World, (X.cell? ⟨wz.heap.size, 0, none⟩ = some (.int .i64 xk) ∧ X.cell? ⟨wz.heap.size, 1, none⟩ = some (.string xt) ∧ X.cell? ⟨wz.heap.size, 2, none⟩ = some (.int .i64 xd) ∧ Hid (Below w2.heap.size w2 X ∧ wz.heap.size < w2.heap.size)) → (X.drew.cell? ⟨wz.heap.size, 0, none⟩ = some (.int .i64 xk) ∧ X.drew.cell? ⟨wz.heap.size, 1, none⟩ = some (.string xt) ∧ X.drew.cell? ⟨wz.heap.size, 2, none⟩ = some (.int .i64 xd) ∧ Hid (Below w2.heap.size w2 X.drew ∧ wz.heap.size < w2.heap.size))) := by
                    rintro X ⟨q0, q1, q2, hH⟩
                    exact ⟨q0, q1, q2, ⟨below_drewN hH.out.1 1, hH.out.2⟩⟩
                  have KB : Hid (∀ X : World, (X.cell? ⟨wz.heap.size, 0, none⟩ = some (.int .i64 xk) ∧ X.cell? ⟨wz.heap.size, 1, none⟩ = some (.string xt) ∧ X.cell? ⟨wz.heap.size, 2, none⟩ = some (.int .i64 xd) ∧ Hid (Below w2.heap.size w2 X ∧ wz.heap.size < w2.heap.size)) → Below w2.heap.size w2 X) := fun X h => h.2.2.2.out.1
                  have K0 : Hid (w2.cell? ⟨wz.heap.size, 0, none⟩ = some (.int .i64 xk) ∧ w2.cell? ⟨wz.heap.size, 1, none⟩ = some (.string xt) ∧ w2.cell? ⟨wz.heap.size, 2, none⟩ = some (.int .i64 xd) ∧ Hid (Below w2.heap.size w2 w2 ∧ wz.heap.size < w2.heap.size)) := ⟨(x0), (x1), (x2), ⟨Below.refl _ _, (hlx)⟩⟩
                  go_region_held3 (fun w' => w'.cell? ⟨wz.heap.size, 0, none⟩ = some (.int .i64 xk) ∧ w'.cell? ⟨wz.heap.size, 1, none⟩ = some (.string xt) ∧ w'.cell? ⟨wz.heap.size, 2, none⟩ = some (.int .i64 xd) ∧ Hid (Below w2.heap.size w2 w' ∧ wz.heap.size < w2.heap.size))
                    (first | exact K0.out | exact KD.out _ K0.out | assumption | exact KP.out _ _ hb' (KD.out _ K0.out) | (refine KP.out _ _ hb' ?_; with_reducible_and_instances assumption) | (refine KD.out _ ?_; with_reducible_and_instances assumption))
                    (first
                      | (go_at_call 43; (first | (refine (CO.out _ _ (by first | exact RO2.out | exact RdE.drew RO2.out | exact RdE.below RO2.out (KB.out _ (by assumption)) (Nat.le_refl _))).mono ?_) | (refine (CN.out _ _ (by first | exact RN2.out | exact RdE.drew RN2.out | exact RdE.below RN2.out (KB.out _ (by assumption)) (Nat.le_refl _))).mono ?_)); rintro e w' ⟨rfl, hb'⟩))
                  rename_i hh
                  obtain ⟨z0, z1, z2, zH⟩ := hh
                  clear KP KD K0 KB
                  have HB3 := Lib.hid (HB2.out.trans (zH.out.1.mono hz2))
                  clear z0 z1 z2 zH
                  go_wp2_with fail
                  refine ⟨⟨j + 1, by omega, by go_num, ?_, HB3.out⟩, by simp [intOf]; try omega⟩
                  rw [HST'.out]
                  first | (rw [Int.add_assoc]; done) | simp | (simp; omega)
                · have HST' : Hid (rO o n (j + 1) = rO o n j + (2 * (q : Int) + 3 * ((p : Int) - (q : Int)))) := by have h := HST.out; show _ = _; omega
                  clear HST
                  have u0 : IntKind.i64.wrap (2 * (q : Int)) = 2 * (q : Int) := by rw [IntKind.wrap_i64]; omega
                  have u1 : IntKind.i64.wrap ((p : Int) - (q : Int)) = (p : Int) - (q : Int) := by rw [IntKind.wrap_i64]; omega
                  have u2 : IntKind.i64.wrap (3 * ((p : Int) - (q : Int))) = 3 * ((p : Int) - (q : Int)) := by rw [IntKind.wrap_i64]; omega
                  have u3 : IntKind.i64.wrap (2 * (q : Int) + 3 * ((p : Int) - (q : Int))) = 2 * (q : Int) + 3 * ((p : Int) - (q : Int)) := by rw [IntKind.wrap_i64]; omega
                  have u4 : IntKind.i64.wrap (s + rO o n j + (2 * (q : Int) + 3 * ((p : Int) - (q : Int)))) = s + rO o n j + (2 * (q : Int) + 3 * ((p : Int) - (q : Int))) := by rw [IntKind.wrap_i64]; omega
                  go_wp2_with fail
                  have KP : Hid (∀ X X' : World, Below X.heap.size X X' → (X.cell? ⟨wz.heap.size, 0, none⟩ = some (.int .i64 xk) ∧ X.cell? ⟨wz.heap.size, 1, none⟩ = some (.string xt) ∧ X.cell? ⟨wz.heap.size, 2, none⟩ = some (.int .i64 xd) ∧ Hid (Below w2.heap.size w2 X ∧ wz.heap.size < w2.heap.size)) → (X'.cell? ⟨wz.heap.size, 0, none⟩ = some (.int .i64 xk) ∧ X'.cell? ⟨wz.heap.size, 1, none⟩ = some (.string xt) ∧ X'.cell? ⟨wz.heap.size, 2, none⟩ = some (.int .i64 xd) ∧ Hid (Below w2.heap.size w2 X' ∧ wz.heap.size < w2.heap.size))) := by
                    rintro X X' hb ⟨q0, q1, q2, hH⟩
                    obtain ⟨hB, l0⟩ := hH.out
                    have hsz := hB.size
                    exact ⟨(hb.cell (p := ⟨wz.heap.size, 0, none⟩) (Nat.lt_of_lt_of_le l0 hsz)).trans q0, (hb.cell (p := ⟨wz.heap.size, 1, none⟩) (Nat.lt_of_lt_of_le l0 hsz)).trans q1, (hb.cell (p := ⟨wz.heap.size, 2, none⟩) (Nat.lt_of_lt_of_le l0 hsz)).trans q2, ⟨hB.trans (hb.mono hsz), l0⟩⟩
                  have KD : Hid (∀ X : World, (X.cell? ⟨wz.heap.size, 0, none⟩ = some (.int .i64 xk) ∧ X.cell? ⟨wz.heap.size, 1, none⟩ = some (.string xt) ∧ X.cell? ⟨wz.heap.size, 2, none⟩ = some (.int .i64 xd) ∧ Hid (Below w2.heap.size w2 X ∧ wz.heap.size < w2.heap.size)) → (X.drew.cell? ⟨wz.heap.size, 0, none⟩ = some (.int .i64 xk) ∧ X.drew.cell? ⟨wz.heap.size, 1, none⟩ = some (.string xt) ∧ X.drew.cell? ⟨wz.heap.size, 2, none⟩ = some (.int .i64 xd) ∧ Hid (Below w2.heap.size w2 X.drew ∧ wz.heap.size < w2.heap.size))) := by
                    rintro X ⟨q0, q1, q2, hH⟩
                    exact ⟨q0, q1, q2, ⟨below_drewN hH.out.1 1, hH.out.2⟩⟩
                  have KB : Hid (∀ X : World, (X.cell? ⟨wz.heap.size, 0, none⟩ = some (.int .i64 xk) ∧ X.cell? ⟨wz.heap.size, 1, none⟩ = some (.string xt) ∧ X.cell? ⟨wz.heap.size, 2, none⟩ = some (.int .i64 xd) ∧ Hid (Below w2.heap.size w2 X ∧ wz.heap.size < w2.heap.size)) → Below w2.heap.size w2 X) := fun X h => h.2.2.2.out.1
                  have K0 : Hid (w2.cell? ⟨wz.heap.size, 0, none⟩ = some (.int .i64 xk) ∧ w2.cell? ⟨wz.heap.size, 1, none⟩ = some (.string xt) ∧ w2.cell? ⟨wz.heap.size, 2, none⟩ = some (.int .i64 xd) ∧ Hid (Below w2.heap.size w2 w2 ∧ wz.heap.size < w2.heap.size)) := ⟨(x0), (x1), (x2), ⟨Below.refl _ _, (hlx)⟩⟩
                  go_region_held3 (fun w' => w'.cell? ⟨wz.heap.size, 0, none⟩ = some (.int .i64 xk) ∧ w'.cell? ⟨wz.heap.size, 1, none⟩ = some (.string xt) ∧ w'.cell? ⟨wz.heap.size, 2, none⟩ = some (.int .i64 xd) ∧ Hid (Below w2.heap.size w2 w' ∧ wz.heap.size < w2.heap.size))
                    (first | exact K0.out | exact KD.out _ K0.out | assumption | exact KP.out _ _ hb' (KD.out _ K0.out) | (refine KP.out _ _ hb' ?_; with_reducible_and_instances assumption) | (refine KD.out _ ?_; with_reducible_and_instances assumption))
                    (first
                      | (go_at_call 43; (first | (refine (CO.out _ _ (by first | exact RO2.out | exact RdE.drew RO2.out | exact RdE.below RO2.out (KB.out _ (by assumption)) (Nat.le_refl _))).mono ?_) | (refine (CN.out _ _ (by first | exact RN2.out | exact RdE.drew RN2.out | exact RdE.below RN2.out (KB.out _ (by assumption)) (Nat.le_refl _))).mono ?_)); rintro e w' ⟨rfl, hb'⟩))
                  rename_i hh
                  obtain ⟨z0, z1, z2, zH⟩ := hh
                  clear KP KD K0 KB
                  have HB3 := Lib.hid (HB2.out.trans (zH.out.1.mono hz2))
                  clear z0 z1 z2 zH
                  go_wp2_with fail
                  refine ⟨⟨j + 1, by omega, by go_num, ?_, HB3.out⟩, by simp [intOf]; try omega⟩
                  rw [HST'.out]
                  first | (rw [Int.add_assoc]; done) | simp | (simp; omega)
                · have HST' : Hid (rO o n (j + 1) = rO o n j + 2 * (p : Int)) := by have h := HST.out; show _ = _; omega
                  clear HST
                  have u0 : IntKind.i64.wrap (2 * (p : Int)) = 2 * (p : Int) := by rw [IntKind.wrap_i64]; omega
                  have u1 : IntKind.i64.wrap (s + rO o n j + 2 * (p : Int)) = s + rO o n j + 2 * (p : Int) := by rw [IntKind.wrap_i64]; omega
                  go_wp2_with fail
                  have KP : Hid (∀ X X' : World, Below X.heap.size X X' → (X.cell? ⟨wz.heap.size, 0, none⟩ = some (.int .i64 xk) ∧ X.cell? ⟨wz.heap.size, 1, none⟩ = some (.string xt) ∧ X.cell? ⟨wz.heap.size, 2, none⟩ = some (.int .i64 xd) ∧ Hid (Below w2.heap.size w2 X ∧ wz.heap.size < w2.heap.size)) → (X'.cell? ⟨wz.heap.size, 0, none⟩ = some (.int .i64 xk) ∧ X'.cell? ⟨wz.heap.size, 1, none⟩ = some (.string xt) ∧ X'.cell? ⟨wz.heap.size, 2, none⟩ = some (.int .i64 xd) ∧ Hid (Below w2.heap.size w2 X' ∧ wz.heap.size < w2.heap.size))) := by
                    rintro X X' hb ⟨q0, q1, q2, hH⟩
                    obtain ⟨hB, l0⟩ := hH.out
                    have hsz := hB.size
                    exact ⟨(hb.cell (p := ⟨wz.heap.size, 0, none⟩) (Nat.lt_of_lt_of_le l0 hsz)).trans q0, (hb.cell (p := ⟨wz.heap.size, 1, none⟩) (Nat.lt_of_lt_of_le l0 hsz)).trans q1, (hb.cell (p := ⟨wz.heap.size, 2, none⟩) (Nat.lt_of_lt_of_le l0 hsz)).trans q2, ⟨hB.trans (hb.mono hsz), l0⟩⟩
                  have KD : Hid (∀ X : World, (X.cell? ⟨wz.heap.size, 0, none⟩ = some (.int .i64 xk) ∧ X.cell? ⟨wz.heap.size, 1, none⟩ = some (.string xt) ∧ X.cell? ⟨wz.heap.size, 2, none⟩ = some (.int .i64 xd) ∧ Hid (Below w2.heap.size w2 X ∧ wz.heap.size < w2.heap.size)) → (X.drew.cell? ⟨wz.heap.size, 0, none⟩ = some (.int .i64 xk) ∧ X.drew.cell? ⟨wz.heap.size, 1, none⟩ = some (.string xt) ∧ X.drew.cell? ⟨wz.heap.size, 2, none⟩ = some (.int .i64 xd) ∧ Hid (Below w2.heap.size w2 X.drew ∧ wz.heap.size < w2.heap.size))) := by
                    rintro X ⟨q0, q1, q2, hH⟩
                    exact ⟨q0, q1, q2, ⟨below_drewN hH.out.1 1, hH.out.2⟩⟩
                  have KB : Hid (∀ X : World, (X.cell? ⟨wz.heap.size, 0, none⟩ = some (.int .i64 xk) ∧ X.cell? ⟨wz.heap.size, 1, none⟩ = some (.string xt) ∧ X.cell? ⟨wz.heap.size, 2, none⟩ = some (.int .i64 xd) ∧ Hid (Below w2.heap.size w2 X ∧ wz.heap.size < w2.heap.size)) → Below w2.heap.size w2 X) := fun X h => h.2.2.2.out.1
                  have K0 : Hid (w2.cell? ⟨wz.heap.size, 0, none⟩ = some (.int .i64 xk) ∧ w2.cell? ⟨wz.heap.size, 1, none⟩ = some (.string xt) ∧ w2.cell? ⟨wz.heap.size, 2, none⟩ = some (.int .i64 xd) ∧ Hid (Below w2.heap.size w2 w2 ∧ wz.heap.size < w2.heap.size)) := ⟨(x0), (x1), (x2), ⟨Below.refl _ _, (hlx)⟩⟩
                  go_region_held3 (fun w' => w'.cell? ⟨wz.heap.size, 0, none⟩ = some (.int .i64 xk) ∧ w'.cell? ⟨wz.heap.size, 1, none⟩ = some (.string xt) ∧ w'.cell? ⟨wz.heap.size, 2, none⟩ = some (.int .i64 xd) ∧ Hid (Below w2.heap.size w2 w' ∧ wz.heap.size < w2.heap.size))
                    (first | exact K0.out | exact KD.out _ K0.out | assumption | exact KP.out _ _ hb' (KD.out _ K0.out) | (refine KP.out _ _ hb' ?_; with_reducible_and_instances assumption) | (refine KD.out _ ?_; with_reducible_and_instances assumption))
                    (first
                      | (go_at_call 43; (first | (refine (CO.out _ _ (by first | exact RO2.out | exact RdE.drew RO2.out | exact RdE.below RO2.out (KB.out _ (by assumption)) (Nat.le_refl _))).mono ?_) | (refine (CN.out _ _ (by first | exact RN2.out | exact RdE.drew RN2.out | exact RdE.below RN2.out (KB.out _ (by assumption)) (Nat.le_refl _))).mono ?_)); rintro e w' ⟨rfl, hb'⟩))
                  rename_i hh
                  obtain ⟨z0, z1, z2, zH⟩ := hh
                  clear KP KD K0 KB
                  have HB3 := Lib.hid (HB2.out.trans (zH.out.1.mono hz2))
                  clear z0 z1 z2 zH
                  go_wp2_with fail
                  refine ⟨⟨j + 1, by omega, by go_num, ?_, HB3.out⟩, by simp [intOf]; try omega⟩
                  rw [HST'.out]
                  first | (rw [Int.add_assoc]; done) | simp | (simp; omega)
              · have hse : ((timesN (o.take j) ⟨xk, xt, xd⟩ : Int) == 0) = false := by simp; omega
                have HST := Lib.hid (HSEEN.out ht hs)
                clear hs HTAG HSEEN HNONE
                go_wp2_with fail
                have KP : Hid (∀ X X' : World, Below X.heap.size X X' → (X.cell? ⟨wz.heap.size, 0, none⟩ = some (.int .i64 xk) ∧ X.cell? ⟨wz.heap.size, 1, none⟩ = some (.string xt) ∧ X.cell? ⟨wz.heap.size, 2, none⟩ = some (.int .i64 xd) ∧ Hid (Below w1.heap.size w1 X ∧ wz.heap.size < w1.heap.size)) → (X'.cell? ⟨wz.heap.size, 0, none⟩ = some (.int .i64 xk) ∧ X'.cell? ⟨wz.heap.size, 1, none⟩ = some (.string xt) ∧ X'.cell? ⟨wz.heap.size, 2, none⟩ = some (.int .i64 xd) ∧ Hid (Below w1.heap.size w1 X' ∧ wz.heap.size < w1.heap.size))) := by
                  rintro X X' hb ⟨q0, q1, q2, hH⟩
                  obtain ⟨hB, l0⟩ := hH.out
                  have hsz := hB.size
                  exact ⟨(hb.cell (p := ⟨wz.heap.size, 0, none⟩) (Nat.lt_of_lt_of_le l0 hsz)).trans q0, (hb.cell (p := ⟨wz.heap.size, 1, none⟩) (Nat.lt_of_lt_of_le l0 hsz)).trans q1, (hb.cell (p := ⟨wz.heap.size, 2, none⟩) (Nat.lt_of_lt_of_le l0 hsz)).trans q2, ⟨hB.trans (hb.mono hsz), l0⟩⟩
                have KD : Hid (∀ X : World, (X.cell? ⟨wz.heap.size, 0, none⟩ = some (.int .i64 xk) ∧ X.cell? ⟨wz.heap.size, 1, none⟩ = some (.string xt) ∧ X.cell? ⟨wz.heap.size, 2, none⟩ = some (.int .i64 xd) ∧ Hid (Below w1.heap.size w1 X ∧ wz.heap.size < w1.heap.size)) → (X.drew.cell? ⟨wz.heap.size, 0, none⟩ = some (.int .i64 xk) ∧ X.drew.cell? ⟨wz.heap.size, 1, none⟩ = some (.string xt) ∧ X.drew.cell? ⟨wz.heap.size, 2, none⟩ = some (.int .i64 xd) ∧ Hid (Below w1.heap.size w1 X.drew ∧ wz.heap.size < w1.heap.size))) := by
                  rintro X ⟨q0, q1, q2, hH⟩
                  exact ⟨q0, q1, q2, ⟨below_drewN hH.out.1 1, hH.out.2⟩⟩
                have KB : Hid (∀ X : World, (X.cell? ⟨wz.heap.size, 0, none⟩ = some (.int .i64 xk) ∧ X.cell? ⟨wz.heap.size, 1, none⟩ = some (.string xt) ∧ X.cell? ⟨wz.heap.size, 2, none⟩ = some (.int .i64 xd) ∧ Hid (Below w1.heap.size w1 X ∧ wz.heap.size < w1.heap.size)) → Below w1.heap.size w1 X) := fun X h => h.2.2.2.out.1
                have K0 : Hid (w1.cell? ⟨wz.heap.size, 0, none⟩ = some (.int .i64 xk) ∧ w1.cell? ⟨wz.heap.size, 1, none⟩ = some (.string xt) ∧ w1.cell? ⟨wz.heap.size, 2, none⟩ = some (.int .i64 xd) ∧ Hid (Below w1.heap.size w1 w1 ∧ wz.heap.size < w1.heap.size)) := ⟨(x0), (x1), (x2), ⟨Below.refl _ _, (hlx)⟩⟩
                go_region_held3 (fun w' => w'.cell? ⟨wz.heap.size, 0, none⟩ = some (.int .i64 xk) ∧ w'.cell? ⟨wz.heap.size, 1, none⟩ = some (.string xt) ∧ w'.cell? ⟨wz.heap.size, 2, none⟩ = some (.int .i64 xd) ∧ Hid (Below w1.heap.size w1 w' ∧ wz.heap.size < w1.heap.size))
                  (first | exact K0.out | exact KD.out _ K0.out | assumption | exact KP.out _ _ hb' (KD.out _ K0.out) | (refine KP.out _ _ hb' ?_; with_reducible_and_instances assumption) | (refine KD.out _ ?_; with_reducible_and_instances assumption))
                  (first
                    | (go_at_call 43; (first | (refine (times_any (o.take j) ⟨xk, xt, xd⟩ _ _ (by first | exact RT1.out | exact RdE.drew RT1.out | exact RdE.below RT1.out (KB.out _ (by assumption)) (Nat.le_refl _)) (by first | omega | (rw [List.length_take]; omega))).mono ?_)); rintro e w' ⟨rfl, hb'⟩))
                rename_i hh
                obtain ⟨t0, t1', t2', tH⟩ := hh
                clear KP KD K0 KB
                have HB2 := Lib.hid (HB1.out.trans (tH.out.1.mono hz1))
                clear t0 t1' t2' tH
                go_wp2_with fail
                refine ⟨⟨j + 1, by omega, by go_num, ?_, HB2.out⟩, by simp [intOf]; try omega⟩
                rw [HST.out]
            · have ht' : isTagB ⟨xk, xt, xd⟩ = false := by simpa using ht
              have HST := Lib.hid (HNONE.out ht')
              clear ht HTAG HSEEN HNONE
              have u1 : IntKind.i64.wrap (s + rO o n j + weightI xk) = s + rO o n j + weightI xk := by rw [IntKind.wrap_i64]; omega
              go_wp2_with fail
              refine (rweight_any xk xd xt _).mono ?_
              rintro e w2 ⟨rfl, hb2⟩
              have HB2 := Lib.hid (HB1.out.trans (hb2.mono hz1))
              clear hb2
              go_wp2_with fail
              refine ⟨⟨j + 1, by omega, by go_num, ?_, HB2.out⟩, by simp [intOf]; try omega⟩
              rw [HST.out, Int.add_assoc]
          · obtain rfl : j = o.length := by omega
            clear hjl
            have hob := rO_small o n o.length (Nat.le_refl _)
            obtain ⟨s1, hs1⟩ : ∃ s1 : Int, s + rO o n o.length = s1 := ⟨_, rfl⟩
            rw [hs1]
            rw [hs1] at HN
            have hs1a : 0 ≤ s1 := by omega
            have hs1b : s1 ≤ 10000000 := by omega
            clear hs1
            go_wp2_with fail
            have HBz := HB
            go_loopw [10, 178] (fun sv jv wy => ∃ j : Nat, j ≤ n.length ∧ jv = .int .i64 j ∧ sv = .int .i64 (s1 + rI o n j) ∧ Hid (Below wA.heap.size wA wy)) (fun _ jv _ => n.length - (intOf jv).toNat)
            case atStart => exact ⟨0, Nat.zero_le _, rfl, by rw [rI_zero, Int.add_zero], HBz.out⟩
            case round =>
              clear HBz HB hzz sm1 hj hob
              obtain ⟨wz, rfl⟩ : ∃ wz : World, wz = wr := ⟨_, rfl⟩
              obtain ⟨j, hj, rfl, rfl, HB⟩ := hrel
              have hzz := HB.out.size
              have sm1 := rI_small o n j hj
              by_cases hjl : j < n.length
              · have sm2 := rI_small o n (j + 1) (by omega)
                have RT' := RdE.below RN.out HB.out (Nat.le_refl _)
                obtain ⟨bb, ob, hA', hbl, q1, q2, q3⟩ := RdT.at_ RT' j hjl
                clear RT'
                have HTAG := Lib.hid (fun ht hs => fun ho => rI_tag o n j hjl ht hs ho)
                have HSEEN := Lib.hid (fun ht hs => rI_seen o n j hjl ht hs)
                have HNONE := Lib.hid (fun ht => rI_none o n j hjl ht)
                generalize n[j] = x at q1 q2 q3 HTAG HSEEN HNONE
                obtain ⟨xk, xt, xd⟩ := x
                simp only at q1 q2 q3
                have hlx : wz.heap.size < (wz.alloc (.cells #[.int .i64 xk, .string xt, .int .i64 xd] 23)).heap.size := by simp
                have HXB : Hid ((wz.alloc (.cells #[.int .i64 xk, .string xt, .int .i64 xd] 23)).heap[wz.heap.size]? = some (.cells #[.int .i64 xk, .string xt, .int .i64 xd] 23)) := Array.getElem?_push_size
                have HBQ := Lib.hid (HB.out.alloc hzz (.cells #[.int .i64 xk, .string xt, .int .i64 xd] 23))
                have hwt := weightI_bd xk
                have j1 : (j : Int) < (n.length : Int) := by omega
                have ek0 : j ≤ cn := by omega
                have ekc : (j : Int) ≤ (cn : Int) := by omega
                have t1 := timesN_le o ⟨xk, xt, xd⟩
                have t2 := timesN_le n ⟨xk, xt, xd⟩
                have t3 := timesN_le (n.take j) ⟨xk, xt, xd⟩
                rw [List.length_take] at t3
                subst hA'
                go_wp2_with fail
                refine (risTag_any xk xd xt _).mono ?_
                rintro e w1 ⟨rfl, hb1⟩
                have HX1 := Lib.hid ((hb1.block wz.heap.size hlx).trans HXB.out)
                have HB1 := Lib.hid (HBQ.out.trans (hb1.mono HBQ.out.size))
                have hz1 := HB1.out.size
                have hlx1 : wz.heap.size < w1.heap.size := Nat.lt_of_lt_of_le hlx hb1.size
                clear hb1 HXB HBQ q1 q2 q3 hlx
                have hlx := hlx1
                clear hlx1
                have RO1 := Lib.hid (RdE.below RO.out HB1.out (Nat.le_refl _))
                have RN1 := Lib.hid (RdE.below RN.out HB1.out (Nat.le_refl _))
                have RT1 := Lib.hid (RdE.take RN1.out j hj)
                obtain ⟨x0, x1, x2⟩ := tbox HX1.out
                by_cases ht : isTagB ⟨xk, xt, xd⟩ = true
                · by_cases hs : timesN (n.take j) ⟨xk, xt, xd⟩ = 0
                  · have hse : ((timesN (n.take j) ⟨xk, xt, xd⟩ : Int) == 0) = true := by simp; omega
                    by_cases ho : timesN o ⟨xk, xt, xd⟩ = 0
                    · have HST := Lib.hid (HTAG.out ht hs ho)
                      have hoe : ((timesN o ⟨xk, xt, xd⟩ : Int) == 0) = true := by simp; omega
                      clear hs ho HTAG HSEEN HNONE
                      have u1 : IntKind.i64.wrap (3 * (timesN n ⟨xk, xt, xd⟩ : Int)) = 3 * (timesN n ⟨xk, xt, xd⟩ : Int) := by rw [IntKind.wrap_i64]; omega
                      have u2 : IntKind.i64.wrap (s1 + rI o n j + 3 * (timesN n ⟨xk, xt, xd⟩ : Int)) = s1 + rI o n j + 3 * (timesN n ⟨xk, xt, xd⟩ : Int) := by rw [IntKind.wrap_i64]; omega
                      go_wp2_with fail
                      have KP : Hid (∀ X X' : World, Below X.heap.size X X' → (X.cell? ⟨wz.heap.size, 0, none⟩ = some (.int .i64 xk) ∧ X.cell? ⟨wz.heap.size, 1, none⟩ = some (.string xt) ∧ X.cell? ⟨wz.heap.size, 2, none⟩ = some (.int .i64 xd) ∧ Hid (Below w1.heap.size w1 X ∧ wz.heap.size < w1.heap.size)) → (X'.cell? ⟨wz.heap.size, 0, none⟩ = some (.int .i64 xk) ∧ X'.cell? ⟨wz.heap.size, 1, none⟩ = some (.string xt) ∧ X'.cell? ⟨wz.heap.size, 2, none⟩ = some (.int .i64 xd) ∧ Hid (Below w1.heap.size w1 X' ∧ wz.heap.size < w1.heap.size))) := by
                        rintro X X' hb ⟨q0, q1, q2, hH⟩
                        obtain ⟨hB, l0⟩ := hH.out
                        have hsz := hB.size
                        exact ⟨(hb.cell (p := ⟨wz.heap.size, 0, none⟩) (Nat.lt_of_lt_of_le l0 hsz)).trans q0, (hb.cell (p := ⟨wz.heap.size, 1, none⟩) (Nat.lt_of_lt_of_le l0 hsz)).trans q1, (hb.cell (p := ⟨wz.heap.size, 2, none⟩) (Nat.lt_of_lt_of_le l0 hsz)).trans q2, ⟨hB.trans (hb.mono hsz), l0⟩⟩
                      have KD : Hid (∀ X : World, (X.cell? ⟨wz.heap.size, 0, none⟩ = some (.int .i64 xk) ∧ X.cell? ⟨wz.heap.size, 1, none⟩ = some (.string xt) ∧ X.cell? ⟨wz.heap.size, 2, none⟩ = some (.int .i64 xd) ∧ Hid (Below w1.heap.size w1 X ∧ wz.heap.size < w1.heap.size)) → (X.drew.cell? ⟨wz.heap.size, 0, none⟩ = some (.int .i64 xk) ∧ X.drew.cell? ⟨wz.heap.size, 1, none⟩ = some (.string xt) ∧ X.drew.cell? ⟨wz.heap.size, 2, none⟩ = some (.int .i64 xd) ∧ Hid (Below w1.heap.size w1 X.drew ∧ wz.heap.size < w1.heap.size))) := by
                        rintro X ⟨q0, q1, q2, hH⟩
                        exact ⟨q0, q1, q2, ⟨below_drewN hH.out.1 1, hH.out.2⟩⟩
                      have KB : Hid (∀ X : World, (X.cell? ⟨wz.heap.size, 0, none⟩ = some (.int .i64 xk) ∧ X.cell? ⟨wz.heap.size, 1, none⟩ = some (.string xt) ∧ X.cell? ⟨wz.heap.size, 2, none⟩ = some (.int .i64 xd) ∧ Hid (Below w1.heap.size w1 X ∧ wz.heap.size < w1.heap.size)) → Below w1.heap.size w1 X) := fun X h => h.2.2.2.out.1
                      have K0 : Hid (w1.cell? ⟨wz.heap.size, 0, none⟩ = some (.int .i64 xk) ∧ w1.cell? ⟨wz.heap.size, 1, none⟩ = some (.string xt) ∧ w1.cell? ⟨wz.heap.size, 2, none⟩ = some (.int .i64 xd) ∧ Hid (Below w1.heap.size w1 w1 ∧ wz.heap.size < w1.heap.size)) := ⟨(x0), (x1), (x2), ⟨Below.refl _ _, (hlx)⟩⟩
                      go_region_held3 (fun w' => w'.cell? ⟨wz.heap.size, 0, none⟩ = some (.int .i64 xk) ∧ w'.cell? ⟨wz.heap.size, 1, none⟩ = some (.string xt) ∧ w'.cell? ⟨wz.heap.size, 2, none⟩ = some (.int .i64 xd) ∧ Hid (Below w1.heap.size w1 w' ∧ wz.heap.size < w1.heap.size))
                        (first | exact K0.out | exact KD.out _ K0.out | assumption | exact KP.out _ _ hb' (KD.out _ K0.out) | (refine KP.out _ _ hb' ?_; with_reducible_and_instances assumption) | (refine KD.out _ ?_; with_reducible_and_instances assumption))
                        (first
                          | (go_at_call 43; (first | (refine (times_any (n.take j) ⟨xk, xt, xd⟩ _ _ (by first | exact RT1.out | exact RdE.drew RT1.out | exact RdE.below RT1.out (KB.out _ (by assumption)) (Nat.le_refl _)) (by first | omega | (rw [List.length_take]; omega))).mono ?_) | (refine (times_any (o) ⟨xk, xt, xd⟩ _ _ (by first | exact RO1.out | exact RdE.drew RO1.out | exact RdE.below RO1.out (KB.out _ (by assumption)) (Nat.le_refl _)) (by first | omega | (rw [List.length_take]; omega))).mono ?_)); rintro e w' ⟨rfl, hb'⟩))
                      rename_i hh
                      obtain ⟨t0, t1', t2', tH⟩ := hh
                      clear KP KD K0 KB
                      obtain ⟨w2, rfl⟩ : ∃ wz : World, wz = w' := ⟨_, rfl⟩
                      have HB2 := Lib.hid (HB1.out.trans (tH.out.1.mono hz1))
                      have hz2 := HB2.out.size
                      have RN2 := Lib.hid (RdE.below RN.out HB2.out (Nat.le_refl _))
                      go_wp2_with fail
                      refine (times_any n ⟨xk, xt, xd⟩ _ _ (by exact RN2.out) (by omega)).mono ?_
                      rintro e w3 ⟨rfl, hb3⟩
                      have HB3 := Lib.hid (HB2.out.trans (hb3.mono hz2))
                      clear hb3 t0 t1' t2' tH
                      go_wp2_with fail
                      refine ⟨⟨j + 1, by omega, by go_num, ?_, HB3.out⟩, by simp [intOf]; try omega⟩
                      rw [HST.out, Int.add_assoc]
                    · have HST := Lib.hid (HSEEN.out ht (fun e => ho e.2))
                      have hoe : ((timesN o ⟨xk, xt, xd⟩ : Int) == 0) = false := by simp; omega
                      clear hs ho HTAG HSEEN HNONE
                      go_wp2_with fail
                      have KP : Hid (∀ X X' : World, Below X.heap.size X X' → (X.cell? ⟨wz.heap.size, 0, none⟩ = some (.int .i64 xk) ∧ X.cell? ⟨wz.heap.size, 1, none⟩ = some (.string xt) ∧ X.cell? ⟨wz.heap.size, 2, none⟩ = some (.int .i64 xd) ∧ Hid (Below w1.heap.size w1 X ∧ wz.heap.size < w1.heap.size)) → (X'.cell? ⟨wz.heap.size, 0, none⟩ = some (.int .i64 xk) ∧ X'.cell? ⟨wz.heap.size, 1, none⟩ = some (.string xt) ∧ X'.cell? ⟨wz.heap.size, 2, none⟩ = some (.int .i64 xd) ∧ Hid (Below w1.heap.size w1 X' ∧ wz.heap.size < w1.heap.size))) := by
                        rintro X X' hb ⟨q0, q1, q2, hH⟩
                        obtain ⟨hB, l0⟩ := hH.out
                        have hsz := hB.size
                        exact ⟨(hb.cell (p := ⟨wz.heap.size, 0, none⟩) (Nat.lt_of_lt_of_le l0 hsz)).trans q0, (hb.cell (p := ⟨wz.heap.size, 1, none⟩) (Nat.lt_of_lt_of_le l0 hsz)).trans q1, (hb.cell (p := ⟨wz.heap.size, 2, none⟩) (Nat.lt_of_lt_of_le l0 hsz)).trans q2, ⟨hB.trans (hb.mono hsz), l0⟩⟩
                      have KD : Hid (∀ X : World, (X.cell? ⟨wz.heap.size, 0, none⟩ = some (.int .i64 xk) ∧ X.cell? ⟨wz.heap.size, 1, none⟩ = some (.string xt) ∧ X.cell? ⟨wz.heap.size, 2, none⟩ = some (.int .i64 xd) ∧ Hid (Below w1.heap.size w1 X ∧ wz.heap.size < w1.heap.size)) → (X.drew.cell? ⟨wz.heap.size, 0, none⟩ = some (.int .i64 xk) ∧ X.drew.cell? ⟨wz.heap.size, 1, none⟩ = some (.string xt) ∧ X.drew.cell? ⟨wz.heap.size, 2, none⟩ = some (.int .i64 xd) ∧ Hid (Below w1.heap.size w1 X.drew ∧ wz.heap.size < w1.heap.size))) := by
                        rintro X ⟨q0, q1, q2, hH⟩
                        exact ⟨q0, q1, q2, ⟨below_drewN hH.out.1 1, hH.out.2⟩⟩
                      have KB : Hid (∀ X : World, (X.cell? ⟨wz.heap.size, 0, none⟩ = some (.int .i64 xk) ∧ X.cell? ⟨wz.heap.size, 1, none⟩ = some (.string xt) ∧ X.cell? ⟨wz.heap.size, 2, none⟩ = some (.int .i64 xd) ∧ Hid (Below w1.heap.size w1 X ∧ wz.heap.size < w1.heap.size)) → Below w1.heap.size w1 X) := fun X h => h.2.2.2.out.1
                      have K0 : Hid (w1.cell? ⟨wz.heap.size, 0, none⟩ = some (.int .i64 xk) ∧ w1.cell? ⟨wz.heap.size, 1, none⟩ = some (.string xt) ∧ w1.cell? ⟨wz.heap.size, 2, none⟩ = some (.int .i64 xd) ∧ Hid (Below w1.heap.size w1 w1 ∧ wz.heap.size < w1.heap.size)) := ⟨(x0), (x1), (x2), ⟨Below.refl _ _, (hlx)⟩⟩
                      go_region_held3 (fun w' => w'.cell? ⟨wz.heap.size, 0, none⟩ = some (.int .i64 xk) ∧ w'.cell? ⟨wz.heap.size, 1, none⟩ = some (.string xt) ∧ w'.cell? ⟨wz.heap.size, 2, none⟩ = some (.int .i64 xd) ∧ Hid (Below w1.heap.size w1 w' ∧ wz.heap.size < w1.heap.size))
                        (first | exact K0.out | exact KD.out _ K0.out | assumption | exact KP.out _ _ hb' (KD.out _ K0.out) | (refine KP.out _ _ hb' ?_; with_reducible_and_instances assumption) | (refine KD.out _ ?_; with_reducible_and_instances assumption))
                        (first
                          | (go_at_call 43; (first | (refine (times_any (n.take j) ⟨xk, xt, xd⟩ _ _ (by first | exact RT1.out | exact RdE.drew RT1.out | exact RdE.below RT1.out (KB.out _ (by assumption)) (Nat.le_refl _)) (by first | omega | (rw [List.length_take]; omega))).mono ?_) | (refine (times_any (o) ⟨xk, xt, xd⟩ _ _ (by first | exact RO1.out | exact RdE.drew RO1.out | exact RdE.below RO1.out (KB.out _ (by assumption)) (Nat.le_refl _)) (by first | omega | (rw [List.length_take]; omega))).mono ?_)); rintro e w' ⟨rfl, hb'⟩))
                      rename_i hh
                      obtain ⟨t0, t1', t2', tH⟩ := hh
                      clear KP KD K0 KB
                      have HB2 := Lib.hid (HB1.out.trans (tH.out.1.mono hz1))
                      clear t0 t1' t2' tH
                      go_wp2_with fail
                      refine ⟨⟨j + 1, by omega, by go_num, ?_, HB2.out⟩, by simp [intOf]; try omega⟩
                      rw [HST.out]
                  · have HST := Lib.hid (HSEEN.out ht (fun e => hs e.1))
                    have hse : ((timesN (n.take j) ⟨xk, xt, xd⟩ : Int) == 0) = false := by simp; omega
                    clear hs HTAG HSEEN HNONE
                    go_wp2_with fail
                    first
                      | (go_region_with (go_at_call 43; refine (times_any (n.take j) ⟨xk, xt, xd⟩ _ _ (by first | exact RT1.out | exact RdE.drew RT1.out) (by rw [List.length_take]; omega)).mono ?_; rintro e w' ⟨rfl, hb'⟩))
                      | fail
                    all_goals
                      have HB2 := Lib.hid (HB1.out.trans (((below_drewN (Below.refl _ _) 1).trans hb').mono hz1))
                      clear hb'
                      go_wp2_with fail
                      refine ⟨⟨j + 1, by omega, by go_num, ?_, HB2.out⟩, by simp [intOf]; try omega⟩
                      rw [HST.out]
                · have ht' : isTagB ⟨xk, xt, xd⟩ = false := by simpa using ht
                  have HST := Lib.hid (HNONE.out ht')
                  clear ht HTAG HSEEN HNONE
                  have u1 : IntKind.i64.wrap (s1 + rI o n j + weightI xk) = s1 + rI o n j + weightI xk := by rw [IntKind.wrap_i64]; omega
                  go_wp2_with fail
                  refine (rweight_any xk xd xt _).mono ?_
                  rintro e w2 ⟨rfl, hb2⟩
                  have HB2 := Lib.hid (HB1.out.trans (hb2.mono hz1))
                  clear hb2
                  go_wp2_with fail
                  refine ⟨⟨j + 1, by omega, by go_num, ?_, HB2.out⟩, by simp [intOf]; try omega⟩
                  rw [HST.out, Int.add_assoc]
              · obtain rfl : j = n.length := by omega
                go_wp2_with fail
                go_ret2
                exact ⟨by rw [HN.out]; rfl, HBA.out.trans (HB.out.mono hsz)⟩

end Go.Proofs.Yteccphcophjhpaa
