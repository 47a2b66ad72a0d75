
/-
  The walk of the law DistanceCosts.
-/
import Derived.Test.YteccphcophjhpaaLaw12B
import Derived.Test.YteccphcophjhpaaMakeA
import Derived.Test.YteccphcophjhpaaOpenTok
import Derived.Deep.RegionWith
import Derived.Deep.DeepCutAuto
namespace Go.Proofs.Yteccphcophjhpaa
open Go.RowKit

def redT : Tk := ⟨6, ⟨#[82, 69, 68]⟩, 0⟩
def TwoBox (W : World) (x y : Tk) (v u : Value) (wx : World) : Prop := ∃ b1 b2 : Nat, v = .pointer (some ⟨b1, 0, none⟩) ∧ u = .pointer (some ⟨b2, 0, none⟩) ∧ wx.heap[b1]? = some (.cells (tkC x).toArray 23) ∧ wx.heap[b2]? = some (.cells (tkC y).toArray 23) ∧ Below W.heap.size W wx

theorem six_cells {w : World} {b : Nat} {v0 v1 v2 v3 v4 v5 : Value} {t : TypeId} (h : w.heap[b]? = some (.cells #[v0, v1, v2, v3, v4, v5] t)) : w.cell? ⟨b, 0, none⟩ = some v0 ∧ w.cell? ⟨b, 1, none⟩ = some v1 ∧ w.cell? ⟨b, 2, none⟩ = some v2 ∧ w.cell? ⟨b, 3, none⟩ = some v3 ∧ w.cell? ⟨b, 4, none⟩ = some v4 ∧ w.cell? ⟨b, 5, none⟩ = some v5 :=
  ⟨by rw [cell_of_row _ _ 0 _ _ _ h]; rfl, by rw [cell_of_row _ _ 1 _ _ _ h]; rfl, by rw [cell_of_row _ _ 2 _ _ _ h]; rfl, by rw [cell_of_row _ _ 3 _ _ _ h]; rfl, by rw [cell_of_row _ _ 4 _ _ _ h]; rfl, by rw [cell_of_row _ _ 5 _ _ _ h]; rfl⟩
theorem costV_symm (x y : Tk) : costV x y = costV y x := by
  unfold costV
  rw [costOk_symm]
  by_cases h : costOk y x = true
  · rw [if_pos h, if_pos h, costI_symm (costOk_kind h).symm]
  · rw [if_neg h, if_neg h]

set_option maxRecDepth 100000 in
set_option maxHeartbeats 32000000 in
theorem costs_main (ak ad bk bd : Int) (at_ bt : ByteArray) (A2 : Option Addr) (c2 : Nat) (l : List Int) (i k : Int) (w : World) (hla : at_.size ≤ 60) (hlb : bt.size ≤ 60) (hll : l.length ≤ 60) (hr : RdE intC 1 w (.slice A2 l.length c2) l) (hin : ∀ x ∈ l, IntIn x) (hi : IntIn i) (hk : IntIn k) :
    Calls Try.prog 3 #[.agg #[.int .i64 ak, .string at_, .int .i64 ad], .agg #[.int .i64 bk, .string bt, .int .i64 bd], .slice A2 l.length c2, .int .i64 i, .int .i64 k] w fun e w' => e = .returned (.bool true) ∧ Below w.heap.size w w' := by
  have M0 := mk_made l 20
  have HM0 := Lib.hid (fun (w : World) (h : RdE intC 1 w (.slice A2 l.length c2) l) => made12_any l 20 _ w h hin (by decide))
  generalize mkT l 20 = m at M0 HM0
  have L0 := M0.len
  obtain ⟨T, HTE⟩ : ∃ T, Hid (m ++ [redT] = T) := ⟨_, rfl⟩
  have hTl : T.length = m.length + 1 := by rw [← HTE.out, List.length_append]; rfl
  have hTa : T.length ≤ 21 := by omega
  have hTb : 1 ≤ T.length := by omega
  obtain ⟨i', hi'⟩ : ∃ i' : Nat, i % (T.length : Int) = (i' : Int) := ⟨(i % (T.length : Int)).toNat, by have := Int.emod_nonneg i (show (T.length : Int) ≠ 0 by omega); omega⟩
  have hil : i' < T.length := by have := Int.emod_lt_of_pos i (show 0 < (T.length : Int) by omega); omega
  obtain ⟨k', hk'⟩ : ∃ k' : Nat, k % (T.length : Int) = (k' : Int) := ⟨(k % (T.length : Int)).toNat, by have := Int.emod_nonneg k (show (T.length : Int) ≠ 0 by omega); omega⟩
  have hkl : k' < T.length := by have := Int.emod_lt_of_pos k (show 0 < (T.length : Int) by omega); omega
  have PI := fun w => place_any i (T.length : Int) w hi (by omega) (by omega)
  rw [hi'] at PI
  have PK := fun w => place_any k (T.length : Int) w hk (by omega) (by omega)
  rw [hk'] at PK
  have HPI := Lib.hid PI
  have HPK := Lib.hid PK
  clear PI PK hi' hk' hTl hin hi hk
  have HB0 := Lib.hid (((Below.refl w.heap.size w).alloc (Nat.le_refl _) (.cells #[.int .i64 ak, .string at_, .int .i64 ad] 23)).alloc (by simp) (.cells #[.int .i64 bk, .string bt, .int .i64 bd] 23))
  have HR0 := Lib.hid (RdE.below hr HB0.out (Nat.le_refl _))
  have HBA : Hid (((w.alloc (.cells #[.int .i64 ak, .string at_, .int .i64 ad] 23)).alloc (.cells #[.int .i64 bk, .string bt, .int .i64 bd] 23)).heap[w.heap.size]? = some (.cells #[.int .i64 ak, .string at_, .int .i64 ad] 23)) := (two_boxes w _ _).1
  have HBB : Hid (((w.alloc (.cells #[.int .i64 ak, .string at_, .int .i64 ad] 23)).alloc (.cells #[.int .i64 bk, .string bt, .int .i64 bd] 23)).heap[w.heap.size + 1]? = some (.cells #[.int .i64 bk, .string bt, .int .i64 bd] 23)) := (two_boxes w _ _).2
  have hz0 : w.heap.size + 1 < ((w.alloc (.cells #[.int .i64 ak, .string at_, .int .i64 ad] 23)).alloc (.cells #[.int .i64 bk, .string bt, .int .i64 bd] 23)).heap.size := by simp
  have s1 : ¬ 60 < (at_.size : Int) := by omega
  have s2 : ¬ 60 < (bt.size : Int) := by omega
  have s3 : ¬ 60 < (l.length : Int) := by omega
  go_enter Try.func3, Try.ntmps3
  go_wp2_with fail
  generalize (w.alloc (.cells #[.int .i64 ak, .string at_, .int .i64 ad] 23)).alloc (.cells #[.int .i64 bk, .string bt, .int .i64 bd] 23) = w0 at HB0 HR0 HBA HBB hz0
  refine (HM0.out _ (by exact HR0.out)).mono ?_
  rintro e w1 ⟨v1, rfl, hown, hb1⟩
  have HO1 := Lib.hid hown
  obtain ⟨A1, c1, hv⟩ := own_shape hown
  subst hv
  have HB1 := Lib.hid hb1
  have hz1 := hb1.size
  clear hown hb1
  go_wp2_with (at_builtin; go_must (refine wpList_app1 rfl (.tmp 39) (.tmp 41) 26 23 rfl Try.underlying26 _ 3 32 tok_info rfl (by decide) w0.heap.size _ _ _ rfl (by exact World.ownsRow.alloc HO1.out _) ⟨w1.heap.size, 0, none⟩ 1 (tkC redT) rfl rfl (by exact cells_new _ _ _) (tkC_one _) (by omega) (by decide) (by simp; omega) ?_); intro g cap w3 hown1 hg1 hbel1 hgr1)
  have ho3 : OwnE 23 tkC 3 w3 w0.heap.size (.slice (some ⟨g, 0, none⟩) (m.length + 1) cap) (m ++ [redT]) := OwnE.snoc hown1
  have HB3 := Lib.hid (hbel1 _ _ (Nat.le_refl _) (by exact HB1.out.alloc hz1 _))
  rw [HTE.out] at ho3
  have HR3 := Lib.hid (OwnE.rd tkC_three ho3)
  have hg3 := (ho3.lt g rfl).2
  have hTm : m.length + 1 = T.length := by rw [← HTE.out, List.length_append]; rfl
  rw [hTm] at HR3 ⊢
  clear hTm hown1 hg1 hbel1 hgr1 ho3
  obtain ⟨bq, oq, hAq, _, q1, q2, q3⟩ := RdT.at_ HR3.out i' hil
  injection hAq with hAq
  injection hAq with e1 e2 _
  subst e1 e2
  obtain ⟨bq, oq, hAq, _, p1, p2, p3⟩ := RdT.at_ HR3.out k' hkl
  injection hAq with hAq
  injection hAq with e1 e2 _
  subst e1 e2
  simp only [Nat.zero_add] at q1 q2 q3 p1 p2 p3
  have hTS : ∀ x ∈ T, x.t.size ≤ 144 := fun x hx => by
    rw [← HTE.out] at hx
    rcases List.mem_append.1 hx with hx | hx
    · exact M0.sz x hx
    · rw [List.mem_singleton] at hx
      subst hx
      show (3 : Nat) ≤ 144
      omega
  have hsx := hTS T[i'] (List.getElem_mem hil)
  have hsy := hTS T[k'] (List.getElem_mem hkl)
  clear hTS
  generalize T[i'] = x at q1 q2 q3 hsx
  generalize T[k'] = y at p1 p2 p3 hsy
  obtain ⟨xk, xt, xd⟩ := x
  obtain ⟨yk, yt, yd⟩ := y
  simp only at q1 q2 q3 p1 p2 p3 hsx hsy
  have hi1 : (i' : Int) < (T.length : Int) := by omega
  have hk1 : (k' : Int) < (T.length : Int) := by omega
  go_wp2_with fail
  have HT12 : Hid (TwoBox w3 ⟨xk, xt, xd⟩ ⟨yk, yt, yd⟩ (.pointer (some ⟨w3.heap.size, 0, none⟩)) (.pointer (some ⟨w3.heap.size + 1, 0, none⟩)) ((w3.alloc (.cells #[.int .i64 xk, .string xt, .int .i64 xd] 23)).alloc (.cells #[.int .i64 yk, .string yt, .int .i64 yd] 23)).drew) :=
    ⟨_, _, rfl, rfl, (two_boxes w3 _ _).1, (two_boxes w3 _ _).2, below_drewN (((Below.refl _ _).alloc (Nat.le_refl _) _).alloc (by simp) _) 1⟩
  have HT21 : Hid (TwoBox w3 ⟨xk, xt, xd⟩ ⟨yk, yt, yd⟩ (.pointer (some ⟨w3.heap.size + 1, 0, none⟩)) (.pointer (some ⟨w3.heap.size, 0, none⟩)) ((w3.alloc (.cells #[.int .i64 yk, .string yt, .int .i64 yd] 23)).alloc (.cells #[.int .i64 xk, .string xt, .int .i64 xd] 23)).drew) :=
    ⟨_, _, rfl, rfl, (two_boxes w3 _ _).2, (two_boxes w3 _ _).1, below_drewN (((Below.refl _ _).alloc (Nat.le_refl _) _).alloc (by simp) _) 1⟩
  clear HR0 HO1 HR3 s1 s2 s3
  go_cut [12, 13] (fun v12 v13 wx => Hid (TwoBox w3 ⟨xk, xt, xd⟩ ⟨yk, yt, yd⟩ v12 v13 wx))
  case first =>
    clear HM0 HBA HBB HB0 HB1 HB3 HTE
    go_region_with (first
      | (go_at_call_of 14 (Value.int .i64 i); refine (HPI.out _).mono ?_; rintro e w' ⟨rfl, rfl⟩)
      | (go_at_call_of 14 (Value.int .i64 k); refine (HPK.out _).mono ?_; rintro e w' ⟨rfl, rfl⟩))
    all_goals
      go_wp2_with fail
      go_meet
      first
        | exact HT12.out
        | exact HT21.out
  case rest =>
    clear HT12 HT21 HPI HPK q1 q2 q3 p1 p2 p3
    obtain ⟨b1, b2, rfl, rfl, hx1, hy1, hbx⟩ := hcut.out
    obtain ⟨wy, rfl⟩ : ∃ wy : World, wy = wc := ⟨_, rfl⟩
    have hz3 := HB3.out.size
    have hzy := hbx.size
    have HXA := Lib.hid ((hbx.block w.heap.size (by omega)).trans ((HB3.out.block w.heap.size (by omega)).trans HBA.out))
    have HXB := Lib.hid ((hbx.block (w.heap.size + 1) (by omega)).trans ((HB3.out.block (w.heap.size + 1) (by omega)).trans HBB.out))
    have HBY := Lib.hid (HB0.out.trans ((HB3.out.trans (hbx.mono hz3)).mono HB0.out.size))
    obtain ⟨a0, a1, a2⟩ := tbox HXA.out
    obtain ⟨b0, b1', b2'⟩ := tbox HXB.out
    obtain ⟨x0, x1, x2⟩ := tbox hx1
    obtain ⟨y0, y1, y2⟩ := tbox hy1
    have hzYY := HBY.out.size
    clear hcut hx1 hy1 hbx HXA HXB HBA HBB HB0 HB1 HB3 hz1 hz3 hzy hz0 hg3
    have ix0 : ∀ W : World, (Instr.index 30 (.agg #[.int .i64 ak, .string at_, .int .i64 ad, .int .i64 bk, .string bt, .int .i64 bd, .int .i64 xk, .string xt, .int .i64 xd, .int .i64 yk, .string yt, .int .i64 yd]) (.int .i64 0)).run Try.prog W = .ok (.agg #[.int .i64 ak, .string at_, .int .i64 ad, .int .i64 bk, .string bt, .int .i64 bd]) W := fun W => by kernel_rfl
    have ix1 : ∀ W : World, (Instr.index 30 (.agg #[.int .i64 ak, .string at_, .int .i64 ad, .int .i64 bk, .string bt, .int .i64 bd, .int .i64 xk, .string xt, .int .i64 xd, .int .i64 yk, .string yt, .int .i64 yd]) (.int .i64 1)).run Try.prog W = .ok (.agg #[.int .i64 xk, .string xt, .int .i64 xd, .int .i64 yk, .string yt, .int .i64 yd]) W := fun W => by kernel_rfl
    go_wp2_with fail
    go_loopw [64] (fun iv wr => ∃ k : Nat, k ≤ 2 ∧ iv = .int .i64 k ∧ Hid (Below wy.heap.size wy wr)) (fun iv _ => 2 - (intOf iv).toNat)
    case atStart => exact ⟨0, by omega, rfl, Below.refl _ _⟩
    case round =>
      clear a0 a1 a2 b0 b1' b2' x0 x1 x2 y0 y1 y2
      obtain ⟨k, hk, rfl, HB⟩ := hrel
      have hz := HB.out.size
      rcases (show k = 0 ∨ k = 1 ∨ k = 2 by omega) with rfl | rfl | rfl
      · have HC := Lib.hid (Array.getElem?_push_size : (wr.alloc (.cells #[.int .i64 ak, .string at_, .int .i64 ad, .int .i64 bk, .string bt, .int .i64 bd] 29)).heap[wr.heap.size]? = some (.cells #[.int .i64 ak, .string at_, .int .i64 ad, .int .i64 bk, .string bt, .int .i64 bd] 29))
        have hlc : wr.heap.size < (wr.alloc (.cells #[.int .i64 ak, .string at_, .int .i64 ad, .int .i64 bk, .string bt, .int .i64 bd] 29)).heap.size := by simp
        have HBQ := Lib.hid (HB.out.alloc hz (.cells #[.int .i64 ak, .string at_, .int .i64 ad, .int .i64 bk, .string bt, .int .i64 bd] 29))
        have c1 := fun w => cost_any ak ad bk bd at_ bt w (by unfold maxLen; omega) (by unfold maxLen; omega)
        have c2 := fun w => rcost_any ak ad bk bd at_ bt w (by unfold maxLen; omega) (by unfold maxLen; omega)
        have c3 := fun w => cost_any bk bd ak ad bt at_ w (by unfold maxLen; omega) (by unfold maxLen; omega)
        rw [costOk_symm ⟨bk, bt, bd⟩ ⟨ak, at_, ad⟩, costV_symm ⟨bk, bt, bd⟩ ⟨ak, at_, ad⟩] at c3
        have C1 := Lib.hid c1
        have C2 := Lib.hid c2
        have C3 := Lib.hid c3
        clear c1 c2 c3
        generalize costV ⟨ak, at_, ad⟩ ⟨bk, bt, bd⟩ = cv at C1 C2 C3
        generalize costOk ⟨ak, at_, ad⟩ ⟨bk, bt, bd⟩ = co at C1 C2 C3
        go_wp2_with fail
        refine (C1.out _).mono ?_
        rintro e w5 ⟨rfl, hb5⟩
        have HC5 := Lib.hid ((hb5.block _ hlc).trans HC.out)
        have HB5 := Lib.hid (HBQ.out.trans (hb5.mono HBQ.out.size))
        have hz5 := HB5.out.size
        have hl5 := Nat.lt_of_lt_of_le hlc hb5.size
        obtain ⟨r0, r1, r2, r3, r4, r5⟩ := six_cells HC5.out
        clear hb5 HBQ HC
        go_wp2_with fail
        refine (C2.out _).mono ?_
        rintro e w6 ⟨rfl, hb6⟩
        have HC6 := Lib.hid ((hb6.block _ hl5).trans HC5.out)
        have HB6 := Lib.hid (HB5.out.trans (hb6.mono hz5))
        have hz6 := HB6.out.size
        clear hb6 r0 r1 r2 r3 r4 r5
        obtain ⟨r0, r1, r2, r3, r4, r5⟩ := six_cells HC6.out
        go_wp2_with fail
        refine (C3.out _).mono ?_
        rintro e w7 ⟨rfl, hb7⟩
        have HB7 := Lib.hid (HB6.out.trans (hb7.mono hz6))
        clear hb7 r0 r1 r2 r3 r4 r5
        go_wp2_with fail
        exact ⟨⟨0 + 1, by omega, by go_num, HB7.out⟩, by simp [intOf]; try omega⟩
      · have HC := Lib.hid (Array.getElem?_push_size : (wr.alloc (.cells #[.int .i64 xk, .string xt, .int .i64 xd, .int .i64 yk, .string yt, .int .i64 yd] 29)).heap[wr.heap.size]? = some (.cells #[.int .i64 xk, .string xt, .int .i64 xd, .int .i64 yk, .string yt, .int .i64 yd] 29))
        have hlc : wr.heap.size < (wr.alloc (.cells #[.int .i64 xk, .string xt, .int .i64 xd, .int .i64 yk, .string yt, .int .i64 yd] 29)).heap.size := by simp
        have HBQ := Lib.hid (HB.out.alloc hz (.cells #[.int .i64 xk, .string xt, .int .i64 xd, .int .i64 yk, .string yt, .int .i64 yd] 29))
        have c1 := fun w => cost_any xk xd yk yd xt yt w (by unfold maxLen; omega) (by unfold maxLen; omega)
        have c2 := fun w => rcost_any xk xd yk yd xt yt w (by unfold maxLen; omega) (by unfold maxLen; omega)
        have c3 := fun w => cost_any yk yd xk xd yt xt w (by unfold maxLen; omega) (by unfold maxLen; omega)
        rw [costOk_symm ⟨yk, yt, yd⟩ ⟨xk, xt, xd⟩, costV_symm ⟨yk, yt, yd⟩ ⟨xk, xt, xd⟩] at c3
        have C1 := Lib.hid c1
        have C2 := Lib.hid c2
        have C3 := Lib.hid c3
        clear c1 c2 c3
        generalize costV ⟨xk, xt, xd⟩ ⟨yk, yt, yd⟩ = cv at C1 C2 C3
        generalize costOk ⟨xk, xt, xd⟩ ⟨yk, yt, yd⟩ = co at C1 C2 C3
        go_wp2_with fail
        refine (C1.out _).mono ?_
        rintro e w5 ⟨rfl, hb5⟩
        have HC5 := Lib.hid ((hb5.block _ hlc).trans HC.out)
        have HB5 := Lib.hid (HBQ.out.trans (hb5.mono HBQ.out.size))
        have hz5 := HB5.out.size
        have hl5 := Nat.lt_of_lt_of_le hlc hb5.size
        obtain ⟨r0, r1, r2, r3, r4, r5⟩ := six_cells HC5.out
        clear hb5 HBQ HC
        go_wp2_with fail
        refine (C2.out _).mono ?_
        rintro e w6 ⟨rfl, hb6⟩
        have HC6 := Lib.hid ((hb6.block _ hl5).trans HC5.out)
        have HB6 := Lib.hid (HB5.out.trans (hb6.mono hz5))
        have hz6 := HB6.out.size
        clear hb6 r0 r1 r2 r3 r4 r5
        obtain ⟨r0, r1, r2, r3, r4, r5⟩ := six_cells HC6.out
        go_wp2_with fail
        refine (C3.out _).mono ?_
        rintro e w7 ⟨rfl, hb7⟩
        have HB7 := Lib.hid (HB6.out.trans (hb7.mono hz6))
        clear hb7 r0 r1 r2 r3 r4 r5
        go_wp2_with fail
        exact ⟨⟨1 + 1, by omega, by go_num, HB7.out⟩, by simp [intOf]; try omega⟩
      · have HBa := Lib.hid (HBY.out.trans (HB.out.mono hzYY))
        go_wp2_with (go_at_call 12; refine (known12_any _).mono ?_; rintro e w' ⟨rfl, hb'⟩)
        go_ret
        exact ⟨rfl, HBa.out.trans (hb'.mono HBa.out.size)⟩

set_option maxRecDepth 100000 in
set_option maxHeartbeats 4000000 in
theorem walk_DistanceCosts (a b : Tk) (A2 : Option Addr) (n2 c2 : Nat) (l : List Int) (i k : Int) (w : World) (_h0 : TkIn a) (_h1 : TkIn b) (h2 : n2 = l.length ∧ l.length ≤ maxLen ∧ RdE intC 1 w (.slice A2 n2 c2) l ∧ ∀ x ∈ l, IntIn x) (h3' : (Lit.int .i64 i).wf = true) (h4' : (Lit.int .i64 k).wf = true) :
    Calls Try.prog 3 #[.agg #[.int .i64 a.k, .string a.t, .int .i64 a.d], .agg #[.int .i64 b.k, .string b.t, .int .i64 b.d], .slice A2 n2 c2, .int .i64 i, .int .i64 k] w fun e w' => e = .returned (.bool true) ∧ Below w.heap.size w w' := by
  have h3 : IntIn i := wf_i64 h3'
  have h4 : IntIn k := wf_i64 h4'
  obtain ⟨rfl, hl, hr, hin⟩ := h2
  obtain ⟨ak, at_, ad⟩ := a
  obtain ⟨bk, bt, bd⟩ := b
  have z1 : ((w.alloc (.cells #[.int .i64 ak, .string at_, .int .i64 ad] 23)).alloc (.cells #[.int .i64 bk, .string bt, .int .i64 bd] 23)).heap.size = w.heap.size + 2 := by simp
  unfold maxLen at hl
  clear h3' h4' _h0 _h1
  by_cases s1 : at_.size ≤ 60 ∧ bt.size ≤ 60 ∧ l.length ≤ 60
  · exact costs_main ak ad bk bd at_ bt A2 c2 l i k w s1.1 s1.2.1 s1.2.2 hr hin h3 h4
  · clear h3 h4 hr hin
    rcases (show (60 < at_.size) ∨ (at_.size ≤ 60 ∧ 60 < bt.size) ∨ (at_.size ≤ 60 ∧ bt.size ≤ 60 ∧ 60 < l.length) by omega) with s1 | ⟨s1, s2⟩ | ⟨s1, s2, s3⟩
    all_goals
      go_enter Try.func3, Try.ntmps3
      go_wp2_with (go_at_call 12; refine (known12_any _).mono ?_; rintro e w' ⟨rfl, hb'⟩)
      go_ret
      exact ⟨rfl, (((Below.refl w.heap.size w).alloc (Nat.le_refl _) _).alloc (by simp) _).trans (hb'.mono (by simp; omega))⟩

end Go.Proofs.Yteccphcophjhpaa
