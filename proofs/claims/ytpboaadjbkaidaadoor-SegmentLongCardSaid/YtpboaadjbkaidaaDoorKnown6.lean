
/-
  The fixed example of chapter 6.
-/
import Derived.Test.YtpboaadjbkaidaaDoorSegD
import Derived.Test.YtpboaadjbkaidaaDoorSegG
namespace Go.Proofs.YtpboaadjbkaidaaDoor
set_option maxRecDepth 100000
open Go.RowKit

theorem known_small : ((rulesF knownT).1.all fun t => decide (t.rs.length ≤ 40) && t.rs.all fun r => decide (r.bf.length ≤ 40) && decide (r.af.length ≤ 40)) = true := by decide +kernel
theorem known_shape : ∃ T : Tb, rulesF knownT = ([T], 0, 0) ∧ breaksF T.rs knownS = [11] ∧ T.rs.length ≤ 1000000 ∧ ∀ r ∈ T.rs, r.bf.length ≤ 1000000 ∧ r.af.length ≤ 1000000 := by
  have h1 := known_len
  have h2 := known_breaks
  have h3 := known_small
  generalize rulesF knownT = k at h1 h2 h3
  obtain ⟨l, n, x⟩ := k
  obtain ⟨h4, h5, h6⟩ := h1
  obtain ⟨T, rfl⟩ : ∃ T, l = [T] := List.length_eq_one_iff.1 h4
  have h7 : (decide (T.rs.length ≤ 40) && T.rs.all fun r => decide (r.bf.length ≤ 40) && decide (r.af.length ≤ 40)) = true := by
    have := List.all_eq_true.1 h3 T (by simp)
    exact this
  rw [Bool.and_eq_true] at h7
  refine ⟨T, by rw [show n = 0 from h5, show x = 0 from h6], h2, ?_, fun r hr => ?_⟩
  · have := of_decide_eq_true h7.1
    omega
  · have := List.all_eq_true.1 h7.2 r hr
    rw [Bool.and_eq_true] at this
    have h8 := of_decide_eq_true this.1
    have h9 := of_decide_eq_true this.2
    omega

set_option maxRecDepth 100000 in
set_option maxHeartbeats 4000000 in
theorem known6_any (w : World) (hg : Got w) : Calls Tryd.prog 17 #[] w fun e w' => e = .returned (.bool true) ∧ Below w.heap.size w w' := by
  have HP := Lib.hid (segParse_any knownT w hg)
  obtain ⟨T, hT, hbr, hrl, hal⟩ := known_shape
  rw [hT] at HP
  unfold RetTbs at HP
  go_enter Tryd.func17, Tryd.ntmps17
  go_upto_region 2 with (go_at_call 20; refine HP.out.mono ?_; rintro e w1 ⟨v1, rfl, hr1, hb1⟩)
  obtain ⟨xs, hx0, hxl, hx⟩ := hr1
  obtain ⟨A, c, hv, hlc, _⟩ := hx0.shape
  have hxl1 : xs.length = 1 := hxl
  rw [hxl1] at hv
  subst hv
  obtain ⟨x, rfl⟩ : ∃ x, xs = [x] := List.length_eq_one_iff.1 hxl1
  obtain ⟨b, o, rfl, hbl, hcell⟩ := hx0.cells (by simp)
  have q2 := hcell 0 x 2 x.r.v rfl rfl
  rw [show o + (0 * 3 + 2) = o + 2 by omega] at q2
  have HRU := Lib.hid (hx 0 x T rfl rfl).2.2
  obtain ⟨nm, pa, ⟨rA, rn, rc⟩⟩ := x
  change w1.cell? _ = some (.slice rA rn rc) at q2
  change Hid (RdRu w1 (.slice rA rn rc) T.rs) at HRU
  have HB1 := Lib.hid hb1
  have HBR := Lib.hid (breaks_any T.rs (.slice rA rn rc) knownS w1 HRU.out hrl hal)
  rw [hbr] at HBR
  unfold RetOwn at HBR
  clear hcell hx hx0 hxl hxl1 hb1 HP hT hbr hrl hal HRU
  go_upto_region 5 with (go_at_call 16; refine HBR.out.mono ?_; rintro e w2 ⟨v2, rfl, ho2, hb2⟩)
  have HR2 := OwnE.rd (f := intC) (m := 1) (fun _ => rfl) ho2
  obtain ⟨A2, c2, hv2⟩ := own_shape ho2
  subst hv2
  obtain ⟨b2, o2, rfl, hbl2, hcell2⟩ := HR2.cells (by simp)
  have q3 := hcell2 0 11 0 (.int .i64 11) rfl rfl
  rw [show o2 + (0 * 1 + 0) = o2 by omega] at q3
  have HBF := Lib.hid (HB1.out.trans (hb2.mono HB1.out.size))
  clear hcell2 HR2 ho2 hb2 HBR
  go_wp2_with fail
  go_ret
  exact ⟨rfl, HBF.out⟩

end Go.Proofs.YtpboaadjbkaidaaDoor
