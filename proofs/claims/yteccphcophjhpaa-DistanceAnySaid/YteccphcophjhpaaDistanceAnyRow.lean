
/-
  The statement DistanceAnySaid: for every input the law returns true, and the input reads as it did. Its walk lies in the text beside it.
-/
import Derived.Test.YteccphcophjhpaaRows
import Derived.Test.YteccphcophjhpaaOpen
import Derived.Test.YteccphcophjhpaaOpenTokS
import Derived.SizedLaws
import Derived.Test.YteccphcophjhpaaDistanceAny
import Derived.WalkKit
import Derived.ProofKit
import Derived.OpenShut
import Derived.ShutString
import Derived.ChangeOld
import Derived.Below
namespace Go.Proofs.Yteccphcophjhpaa.distanceAny
open Go.ChangeShapes Go.WideShapes Go.ChangeAt Go.RowKit
open Go.ChangeMaps (open_string shut_string)
set_option linter.unusedVariables false

theorem own : ownKnob Try.prog.godebug = none := by kernel_rfl
theorem laidOut : laidOutB Try.prog = true := by kernel_rfl

set_option maxRecDepth 100000 in
theorem lifted (os : Os) (started : os.Started) (H : Type) (enc : TypeId × Value → H) :
    ReturnsInHanded {} Try.checked os 10 .any (Rows.distanceAnySpec.pre6 enc Try.prog Try.f10 Rows.distanceAnyRow.domain false) (Rows.distanceAnySpec.post enc Try.prog Try.f10 false true false false) := by
  refine returnsInHanded_of_change_sized (C := Try.checked) own started (by kernel_rfl) Try.func10
    (ChangeSpec.witness6 (enc := enc) (C := Try.checked) false ⟨#[], #[.slice none 0 0, .slice none 0 0], []⟩ 8 (by kernel_rfl) (by kernel_rfl) (by kernel_rfl) (by kernel_rfl)) ?_
  intro W base args ds gs before hval0 hW hcnd hsz _
  have hval : ∀ (j : Nat) t v, Try.f10.params[j]? = some t → args[j]? = some v → Value.okWide Try.prog W .any base t v := hval0
  have hW' := hW
  obtain ⟨p, q, hA0, hV, rfl, hfz, hnd⟩ := hW
  have hA : DataW.TrodAll enc Try.prog W 0 (fun _ => true) true Try.f10.params.toList args.toList ds p := hA0
  rw [Try.params10] at hA hval
  obtain ⟨v0, vs0, d0, ds0, p0, q0, hargs, rfl, rfl, h0, r0⟩ := trodAll_cons hA
  obtain ⟨v1, vs1, d1, ds1, p1, q1, rfl, rfl, rfl, h1, r1⟩ := trodAll_cons r0
  obtain ⟨rfl, rfl, rfl⟩ := trodAll_nil r1
  obtain rfl : args = #[v0, v1] := by cases args; simp_all
  obtain ⟨rfl, rfl⟩ := trodVars_none hV
  have k0 := h0
  have lt0 : ∀ x ∈ p0, x.block < W.heap.size := by obtain ⟨m, hm⟩ := k0; exact DataW.trod_lt m _ _ _ hm
  have k1 := h1
  have lt1 : ∀ x ∈ p1, x.block < W.heap.size := by obtain ⟨m, hm⟩ := k1; exact DataW.trod_lt m _ _ _ hm
  have y0 : ∀ q ∈ DataW.weights Try.prog 26 d0, q ≤ reachBytes := fun q hq => of_decide_eq_true (List.all_eq_true.1 hsz q (DataW.weights_mem_each (j := 0) (t := 26) (by kernel_rfl) rfl q hq))
  obtain ⟨A0, n0, c0, a0, rfl, w0⟩ := open_toksS (hval 0 26 v0 rfl rfl) h0 y0
  have y1 : ∀ q ∈ DataW.weights Try.prog 26 d1, q ≤ reachBytes := fun q hq => of_decide_eq_true (List.all_eq_true.1 hsz q (DataW.weights_mem_each (j := 1) (t := 26) (by kernel_rfl) rfl q hq))
  obtain ⟨A1, n1, c1, a1, rfl, w1⟩ := open_toksS (hval 1 26 v1 rfl rfl) h1 y1
  clear hA0 hval0
  refine (walk_DistanceAny A0 n0 c0 a0 A1 n1 c1 a1 W w0 w1).mono fun e W' ⟨he, bel⟩ => ?_
  subst he
  exact ⟨_, rfl, _, _, _, [], _, [], hW', trodAll_mk1 (shut_bool Try.underlying4 _), (trodAll_cons_mk (Below.trod laidOut (by kernel_rfl) (of_decide_eq_true (by kernel_rfl)) k0 bel lt0) (trodAll_cons_mk (Below.trod laidOut (by kernel_rfl) (of_decide_eq_true (by kernel_rfl)) k1 bel lt1) trodAll_mk0)), rfl, bel.frame _, fun h => by cases h⟩

theorem over : Rows.distanceAnyRow.holds Try.pinned (OpenSpec.ofChange Rows.distanceAnySpec) :=
  OpenClaim.holds_of_wide 10 Try.f10 rfl rfl rfl rfl rfl rfl rfl ⟨rfl, rfl, rfl, rfl, rfl⟩ rfl rfl rfl rfl rfl (by kernel_rfl) Try.func10 (by kernel_rfl)
    (of_decide_eq_true (by kernel_rfl)) (by unfold Func.isWrapper; first | (rw [if_pos (by decide +kernel)]; kernel_rfl) | (rw [if_neg (by decide +kernel)]; exact ⟨rfl, rfl⟩))
    (fun os started H enc _ => lifted os started H enc)

theorem proved : Rows.DistanceAnySaid := over
end Go.Proofs.Yteccphcophjhpaa.distanceAny
