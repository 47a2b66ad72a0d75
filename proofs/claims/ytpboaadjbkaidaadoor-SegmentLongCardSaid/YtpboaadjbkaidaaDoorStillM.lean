
/-
  Regions by hand: where two operations may come up.
-/
import Derived.Test.YtpboaadjbkaidaaDoorStillK
namespace Go.Proofs.YtpboaadjbkaidaaDoor
set_option maxRecDepth 100000
open Go.RowKit

section
variable {P : Program} {ops : Array Oper} {w : World} {a : Act}
theorem wp_of_val {o : Oper} {v : Value} {K : Act → World → Prop} {QE : Exit → Act → World → Prop} (hv : (execOp a.eval o).run P w = .ok (.value v) w) (h : K (a.put o.dst v) w) : Oper.wp P o a w K QE := by
  show Oper.upon _ _ _ _ _ _
  rw [hv]
  exact h
theorem wp_of_call {o : Oper} {f : FuncId} {vs : Array Value} {K : Act → World → Prop} {QE : Exit → Act → World → Prop} (hrun : (execOp a.eval o).run P w = .ok (.enter f vs) w) {Post : Ending → World → Prop} (hc : Calls P f vs w Post)
    (h : ∀ e w', Post e w' → ∃ v, e = .returned v ∧ K (a.put o.dst v) w') : Oper.wp P o a w K QE := by
  show Oper.upon _ _ _ _ _ _
  rw [hrun, Oper.upon_enter]
  refine hc.mono fun e w' hp => ?_
  obtain ⟨v, rfl, hv⟩ := h e w' hp
  exact hv
theorem wpAny_vals {md : Region.Mode} {QE : Exit → Act → World → Prop} (i j : Nat) (d e : Option Tmp) (v u : Value) {oi oj : Oper} {fuel : Nat} {listed : Array Bool} {rs rs2 : List Oper} (hr : Region.ready md ops listed = [i, j]) (hi : ops.toList.drop i = oi :: rs) (hj : ops.toList.drop j = oj :: rs2) (hd : oi.dst = d) (he : oj.dst = e)
    (hwi : Region.wanted oi (yielded ops a.tmps) = true) (hwj : Region.wanted oj (yielded ops a.tmps) = true) (hv : (execOp a.eval oi).run P w = .ok (.value v) w) (hu : (execOp a.eval oj).run P w = .ok (.value u) w)
    (h1 : wpAny P md ops QE fuel (listed.setIfInBounds i true) (a.put d v) w) (h2 : wpAny P md ops QE fuel (listed.setIfInBounds j true) (a.put e u) w) : wpAny P md ops QE (fuel + 1) listed a w := by
  subst hd he
  exact wpAny_two i j hr hi hj hwi hwj (wp_of_val hv h1) (wp_of_val hu h2)
/-- A call and a reading operation. -/
theorem wpAny_callval {md : Region.Mode} {QE : Exit → Act → World → Prop} (i j : Nat) (d e : Option Tmp) (u : Value) {oi oj : Oper} {fuel : Nat} {listed : Array Bool} {rs rs2 : List Oper} (hr : Region.ready md ops listed = [i, j]) (hi : ops.toList.drop i = oi :: rs) (hj : ops.toList.drop j = oj :: rs2) (hd : oi.dst = d) (he : oj.dst = e)
    (hwi : Region.wanted oi (yielded ops a.tmps) = true) (hwj : Region.wanted oj (yielded ops a.tmps) = true) (f : FuncId) (vs : Array Value) (hrun : (execOp a.eval oi).run P w = .ok (.enter f vs) w) {Post : Ending → World → Prop} (hc : Calls P f vs w Post) (hu : (execOp a.eval oj).run P w = .ok (.value u) w)
    (h1 : ∀ e' w', Post e' w' → ∃ v, e' = .returned v ∧ wpAny P md ops QE fuel (listed.setIfInBounds i true) (a.put d v) w') (h2 : wpAny P md ops QE fuel (listed.setIfInBounds j true) (a.put e u) w) : wpAny P md ops QE (fuel + 1) listed a w := by
  subst hd he
  exact wpAny_two i j hr hi hj hwi hwj (wp_of_call hrun hc h1) (wp_of_val hu h2)
end

end Go.Proofs.YtpboaadjbkaidaaDoor
