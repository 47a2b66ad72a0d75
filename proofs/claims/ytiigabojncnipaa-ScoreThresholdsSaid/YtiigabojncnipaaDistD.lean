
/-
  Distance of the reference; comparing scripts.
-/
import Derived.Test.YtiigabojncnipaaTable
import Derived.Test.YtiigabojncnipaaDistC
import Derived.Test.YtiigabojncnipaaMathEd
import Derived.Deep.RegionWith
namespace Go.Proofs.Ytiigabojncnipaa
open Go.RowKit

set_option maxRecDepth 100000 in
set_option maxHeartbeats 8000000 in
theorem rdist_any (a b : List Tk) (va vb : Value) (w : World) (ha : RdT w va a) (hb : RdT w vb b) (hla : a.length ≤ 100000) (hlb : b.length ≤ 100000) (hia : ∀ x ∈ a, TkD x) (hib : ∀ x ∈ b, TkD x) :
    Calls Try.prog 20 #[va, vb] w fun e w' => e = .returned (.int .i64 (distI a b)) ∧ Below w.heap.size w w' := by
  obtain ⟨A, c, rfl, _, _⟩ := ha.shape
  obtain ⟨A2, c2, rfl, _, _⟩ := hb.shape
  have CT := Lib.hid (fun (W : World) (h : Below w.heap.size w W) => table_any a b _ _ W (RdE.below ha h (Nat.le_refl _)) (RdE.below hb h (Nat.le_refl _)) hla hlb hia hib)
  have CS := Lib.hid (fun (W : World) (h : Below w.heap.size w W) => rsurplus_any a b _ _ W (RdE.below ha h (Nat.le_refl _)) (RdE.below hb h (Nat.le_refl _)) hla hlb)
  have HD : Hid (distI a b = tabI a b 0 0 + 2 * supI a b) := rfl
  have t0 := tab_bd a b 0 0
  have s0 := supI_bound a b
  have s1 := supI_nonneg a b
  have e0 : (0 : Int) < (a.length : Int) + 1 := by omega
  have e1 : (0 : Int) < (b.length : Int) + 1 := by omega
  have u1 : IntKind.i64.wrap (2 * supI a b) = 2 * supI a b := by rw [IntKind.wrap_i64]; omega
  have u2 : IntKind.i64.wrap (tabI a b 0 0 + 2 * supI a b) = tabI a b 0 0 + 2 * supI a b := by rw [IntKind.wrap_i64]; omega
  have B0 := Lib.hid (Below.refl w.heap.size w)
  clear ha hb hia hib
  go_enter Try.func20, Try.ntmps20
  go_wp2_with fail
  go_region_with (first
    | (go_at_call 28; refine (CT.out _ (by first | exact below_drewN B0.out 1 | exact BS.out)).mono ?_; rintro e wt ⟨G, g, rfl, hT, hbt⟩; have BT := Lib.hid ((show Below w.heap.size w _ from (by first | exact below_drewN B0.out 1 | exact BS.out)).trans (hbt.mono (by first | exact (below_drewN B0.out 1).size | exact BS.out.size))); have HT := Lib.hid hT; have o0 := hT.out 0 (Nat.le_refl _) (by omega); have c0 := hT.cell 0 0 (Nat.le_refl _) (by omega) (by omega); clear hT hbt)
    | (go_at_call 29; refine (CS.out _ (by first | exact BT.out | exact below_drewN B0.out 1)).mono ?_; rintro e ws ⟨rfl, hbs⟩; have BS := Lib.hid ((show Below w.heap.size w _ from (by first | exact BT.out | exact below_drewN B0.out 1)).trans (hbs.mono (by first | exact BT.out.size | exact (below_drewN B0.out 1).size))); (try (have o0' := (HT.out.below hbs).out 0 (Nat.le_refl _) (by omega); have c0' := (HT.out.below hbs).cell 0 0 (Nat.le_refl _) (by omega) (by omega))); clear hbs))
  all_goals
    go_wp2_with fail
    go_ret
    exact ⟨ret_int HD.out.symm, by first | exact BS.out | exact BT.out⟩

end Go.Proofs.Ytiigabojncnipaa
