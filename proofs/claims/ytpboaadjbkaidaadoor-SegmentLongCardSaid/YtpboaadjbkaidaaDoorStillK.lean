
/-
  Steps of a region that only reads, one operation at a time, each with its value written out: nothing is evaluated but the operands that it names.
-/
import Derived.Test.YtpboaadjbkaidaaDoorBase
import Derived.Deep.MidRow
import Derived.StillTailTactics
namespace Go.Proofs.YtpboaadjbkaidaaDoor
set_option maxRecDepth 100000
open Go.RowKit

section
variable {P : Program} {ops : Array Oper} {w : World} {Q : Act → Prop} {a : Act} {o : Oper} {rest : List Oper}
theorem wpStill_take (hw : Region.wanted o (yielded ops a.tmps) = true) (v : Value) (hv : (execOp a.eval o).run P w = .ok (.value v) w) (h : wpStill P ops w Q rest (a.put o.dst v)) : wpStill P ops w Q (o :: rest) a :=
  wpStill_step fun K hK => by
    rw [if_pos hw]
    unfold Oper.still
    rw [hv, Oper.stillUpon_value]
    exact hK _ h
theorem wpStill_pass (hw : Region.wanted o (yielded ops a.tmps) = false) (h : wpStill P ops w Q rest (a.put o.dst undef)) : wpStill P ops w Q (o :: rest) a :=
  wpStill_step fun K hK => by
    rw [if_neg (by rw [hw]; exact Bool.false_ne_true)]
    exact hK _ h
/-- The same behind a wall that no elaboration opens. -/
structure SW (P : Program) (ops : Array Oper) (w : World) (Q : Act → Prop) (rest : List Oper) (a : Act) : Prop where
  out : wpStill P ops w Q rest a
theorem sw_take (d : Option Tmp) (hd : o.dst = d) (hw : Region.wanted o (yielded ops a.tmps) = true) (v : Value) (hv : (execOp a.eval o).run P w = .ok (.value v) w) (h : SW P ops w Q rest (a.put d v)) : SW P ops w Q (o :: rest) a := by
  subst hd
  exact ⟨wpStill_take hw v hv h.out⟩
theorem sw_pass (d : Option Tmp) (hd : o.dst = d) (hw : Region.wanted o (yielded ops a.tmps) = false) (h : SW P ops w Q rest (a.put d undef)) : SW P ops w Q (o :: rest) a := by
  subst hd
  exact ⟨wpStill_pass hw h.out⟩
theorem sw_nil (h : Q a) : SW P ops w Q [] a := ⟨wpStill_nil h⟩
theorem sw_region_tail {id : Nat} {QE : Exit → Act → World → Prop} {l l1 l2 : List Oper} (n : Nat) (hm : P.follows .mixedOrders = true) (hB : Region.lexTailB .any l.toArray n = true) (e1 : l.take n = l1) (e2 : l.drop n = l2)
    (h : SW P l.toArray w.drew (fun a' => wpList P l.toArray QE l2 a' w.drew) l1 a) : (Code.region id l.toArray true).wp P QE a w := by
  subst e1 e2
  exact wp_region_still_tail n hm hB h.out
theorem sw_region {id : Nat} {QE : Exit → Act → World → Prop} {l : List Oper} (hm : P.follows .mixedOrders = true) (hB : Region.lexB .any l.toArray = true)
    (h : SW P l.toArray w.drew (fun a' => QE .normal a' w.drew) l a) : (Code.region id l.toArray true).wp P QE a w :=
  wp_region_still_lit hm hB h.out
theorem ex_move (x : Operand) (v : Value) (ho : o.op = .move x) (hx : a.eval x = v) : (execOp a.eval o).run P w = .ok (.value v) w := by
  unfold execOp
  simp only [ho, hx]
  rfl
theorem ex_assign (x : Operand) (v : Value) (ho : o.op = .assign x) (hx : a.eval x = v) : (execOp a.eval o).run P w = .ok (.value v) w := by
  unfold execOp
  simp only [ho, hx]
  rfl
theorem ex_pick (c x y : Operand) (b : Bool) (vx vy : Value) (ho : o.op = .pick c x y) (hc : a.eval c = .bool b) (hx : a.eval x = vx) (hy : a.eval y = vy) : (execOp a.eval o).run P w = .ok (.value (if b = true then vx else vy)) w := by
  unfold execOp
  simp only [ho, hx, hy, hc]
  rfl
theorem ex_indexAddr (t : TypeId) (x i : Operand) (vx vi v : Value) (ho : o.op = .indexAddr t x i) (hx : a.eval x = vx) (hi : a.eval i = vi) (hr : (Instr.indexAt t vx vi).run P w = .ok v w) : (execOp a.eval o).run P w = .ok (.value v) w := by
  unfold execOp
  simp only [ho, hx, hi, Sem.run_bind, hr, Result.andThen_ok, Sem.run_pure]
theorem ex_fieldAddr (t : TypeId) (x : Operand) (f : Nat) (vx v : Value) (ho : o.op = .fieldAddr t x f) (hx : a.eval x = vx) (hr : (Instr.fieldAt t vx f).run P w = .ok v w) : (execOp a.eval o).run P w = .ok (.value v) w := by
  unfold execOp
  simp only [ho, hx, Sem.run_bind, hr, Result.andThen_ok, Sem.run_pure]
theorem ex_load (t : TypeId) (x : Operand) (vx v : Value) (ho : o.op = .load t x) (hx : a.eval x = vx) (hr : (Instr.loadAt t vx).run P w = .ok v w) : (execOp a.eval o).run P w = .ok (.value v) w := by
  unfold execOp
  simp only [ho, hx, Sem.run_bind, hr, Result.andThen_ok, Sem.run_pure]
theorem ex_index (t : TypeId) (x i : Operand) (vx vi v : Value) (ho : o.op = .index t x i) (hx : a.eval x = vx) (hi : a.eval i = vi) (hr : (Instr.index t vx vi).run P w = .ok v w) : (execOp a.eval o).run P w = .ok (.value v) w := by
  unfold execOp
  simp only [ho, hx, hi, Sem.run_bind, hr, Result.andThen_ok, Sem.run_pure]
theorem ex_binOp (op : BinOp) (t t2 : TypeId) (x y : Operand) (vx vy v : Value) (ho : o.op = .binOp op t x y t2) (hx : a.eval x = vx) (hy : a.eval y = vy) (hr : (do eqGuard op t x y vx vy; Go.binOp op t vx vy : Sem Value).run P w = .ok v w) : (execOp a.eval o).run P w = .ok (.value v) w := by
  unfold execOp
  simp only [ho, hx, hy]
  rw [Sem.run_bind, hr]
  rfl
/-- A region that draws its order, what has come up written out. -/
theorem wp_region_at {QE : Exit → Act → World → Prop} {id : Nat} (n : Nat) (l0 : Array Bool) (hn : ops.size = n) (hl : Array.replicate n false = l0) (hm : P.follows .mixedOrders = true)
    (h : wpAny P .any ops QE n l0 a w.drew) : (Code.region id ops true).wp P QE a w := by
  subst hn hl
  exact wp_region_any hm h
theorem at_drop {i : Nat} {oi : Oper} {rs : List Oper} (h : ops.toList.drop i = oi :: rs) : ops[i]? = some oi := by
  rw [← Array.getElem?_toList]
  have := congrArg (fun l => l[0]?) h
  simpa using this
/-- wpAny_take, the slot written out. -/
theorem wpAny_at {md : Region.Mode} {QE : Exit → Act → World → Prop} {i : Nat} {oi : Oper} (d : Option Tmp) {v : Value} {fuel : Nat} {listed : Array Bool} {rs : List Oper} (hi0 : ops.toList.drop i = oi :: rs) (hd : oi.dst = d)
    (hs : Region.noSelect ops = true) (hf : Region.free md ops listed i = true) (hr : (Region.ready md ops listed).contains i = true)
    (hQ : ∀ c a w, QE (.panic c) (a.put oi.dst v) w → QE (.panic c) a w) (hw : Region.wanted oi (yielded ops a.tmps) = true) (hv : ∀ w, (execOp a.eval oi).run P w = .ok (.value v) w)
    (h : wpAny P md ops QE fuel (listed.setIfInBounds i true) (a.put d v) w) : wpAny P md ops QE (fuel + 1) listed a w := by
  subst hd
  have hi := at_drop hi0
  exact wpAny_take hi hs hf hr hQ (Or.inl ⟨hw, hv⟩) h
/-- One operation alone may come up. -/
theorem wpAny_only {md : Region.Mode} {QE : Exit → Act → World → Prop} (i : Nat) {oi : Oper} {fuel : Nat} {listed : Array Bool} {rs : List Oper} (hr : Region.ready md ops listed = [i]) (hi : ops.toList.drop i = oi :: rs) (hw : Region.wanted oi (yielded ops a.tmps) = true)
    (h : Oper.wp P oi a w (wpAny P md ops QE fuel (listed.setIfInBounds i true)) QE) : wpAny P md ops QE (fuel + 1) listed a w :=
  wpAny_ready hr (by simp) (AllReady.cons (at_drop hi) (fun K hK => by rw [if_pos hw]; exact Oper.wp_mono hK h) AllReady.nil)
theorem wpAny_two {md : Region.Mode} {QE : Exit → Act → World → Prop} (i j : Nat) {oi oj : Oper} {fuel : Nat} {listed : Array Bool} {rs rs2 : List Oper} (hr : Region.ready md ops listed = [i, j]) (hi : ops.toList.drop i = oi :: rs) (hj : ops.toList.drop j = oj :: rs2) (hwi : Region.wanted oi (yielded ops a.tmps) = true) (hwj : Region.wanted oj (yielded ops a.tmps) = true)
    (h1 : Oper.wp P oi a w (wpAny P md ops QE fuel (listed.setIfInBounds i true)) QE) (h2 : Oper.wp P oj a w (wpAny P md ops QE fuel (listed.setIfInBounds j true)) QE) : wpAny P md ops QE (fuel + 1) listed a w :=
  wpAny_ready hr (by simp) (AllReady.cons (at_drop hi) (fun K hK => by rw [if_pos hwi]; exact Oper.wp_mono hK h1) (AllReady.cons (at_drop hj) (fun K hK => by rw [if_pos hwj]; exact Oper.wp_mono hK h2) AllReady.nil))
/-- One load alone may come up. (No goal 'Oper.wp ..' may stand open: elaborating against it runs the operation and what follows.) -/
theorem wpAny_load {md : Region.Mode} {QE : Exit → Act → World → Prop} (i : Nat) (d : Option Tmp) {oi : Oper} {fuel : Nat} {listed : Array Bool} {rs : List Oper} (hr : Region.ready md ops listed = [i]) (hi : ops.toList.drop i = oi :: rs) (hd : oi.dst = d) (hw : Region.wanted oi (yielded ops a.tmps) = true)
    (ty : TypeId) (x : Operand) (ho : oi.op = .load ty x) (b o : Nat) (hx : a.eval x = .pointer (some ⟨b, o, none⟩)) (cs : List Value) (dd : TypeDesc) (hc : w.rangeAt b o cs) (hu : P.underlying ty = some dd) (hdd : dd.isRow = true) (hsz : (P.info? ty).map (·.size) = some cs.length)
    (h : wpAny P md ops QE fuel (listed.setIfInBounds i true) (a.put d (.agg cs.toArray)) w) : wpAny P md ops QE (fuel + 1) listed a w := by
  subst hd
  exact wpAny_only i hr hi hw (wp_load_mid ty x ho b o hx cs dd hc hu hdd hsz h)
theorem wpAny_loads {md : Region.Mode} {QE : Exit → Act → World → Prop} (i j : Nat) (d e : Option Tmp) {oi oj : Oper} {fuel : Nat} {listed : Array Bool} {rs rs2 : List Oper} (hr : Region.ready md ops listed = [i, j]) (hi : ops.toList.drop i = oi :: rs) (hj : ops.toList.drop j = oj :: rs2) (hd : oi.dst = d) (he : oj.dst = e)
    (hwi : Region.wanted oi (yielded ops a.tmps) = true) (hwj : Region.wanted oj (yielded ops a.tmps) = true)
    (ty : TypeId) (x : Operand) (ho : oi.op = .load ty x) (b o : Nat) (hx : a.eval x = .pointer (some ⟨b, o, none⟩)) (cs : List Value) (dd : TypeDesc) (hc : w.rangeAt b o cs) (hu : P.underlying ty = some dd) (hdd : dd.isRow = true) (hsz : (P.info? ty).map (·.size) = some cs.length)
    (ty2 : TypeId) (x2 : Operand) (ho2 : oj.op = .load ty2 x2) (b2 o2 : Nat) (hx2 : a.eval x2 = .pointer (some ⟨b2, o2, none⟩)) (cs2 : List Value) (dd2 : TypeDesc) (hc2 : w.rangeAt b2 o2 cs2) (hu2 : P.underlying ty2 = some dd2) (hdd2 : dd2.isRow = true) (hsz2 : (P.info? ty2).map (·.size) = some cs2.length)
    (h1 : wpAny P md ops QE fuel (listed.setIfInBounds i true) (a.put d (.agg cs.toArray)) w) (h2 : wpAny P md ops QE fuel (listed.setIfInBounds j true) (a.put e (.agg cs2.toArray)) w) : wpAny P md ops QE (fuel + 1) listed a w := by
  subst hd he
  exact wpAny_two i j hr hi hj hwi hwj (wp_load_mid ty x ho b o hx cs dd hc hu hdd hsz h1) (wp_load_mid ty2 x2 ho2 b2 o2 hx2 cs2 dd2 hc2 hu2 hdd2 hsz2 h2)
theorem wpAny_store {md : Region.Mode} {QE : Exit → Act → World → Prop} (i : Nat) {oi : Oper} {fuel : Nat} {listed : Array Bool} {rs : List Oper} (hr : Region.ready md ops listed = [i]) (hi : ops.toList.drop i = oi :: rs) (hd : oi.dst = none) (hw : Region.wanted oi (yielded ops a.tmps) = true)
    (ty : TypeId) (x y : Operand) (ho : oi.op = .store ty x y) (b o : Nat) (cells : List Value) (hx : a.eval x = .pointer (some ⟨b, o, none⟩)) (hy : a.eval y = .agg cells.toArray) (ht : w.there b o cells.length) (hsz : (P.info? ty).map (·.size) = some cells.length) (h1 : cells.toArray.all (·.oneCell') = true)
    (h : wpAny P md ops QE fuel (listed.setIfInBounds i true) a (w.setCells b o cells)) : wpAny P md ops QE (fuel + 1) listed a w := by
  refine wpAny_only i hr hi hw (wp_store_mid ty x y ho b o cells.toArray hx hy (by simpa using ht) (by simpa using hsz) h1 ?_)
  rw [hd]
  exact h
/-- A reading operation that alone may come up: its value in this world. -/
theorem wpAny_val {md : Region.Mode} {QE : Exit → Act → World → Prop} (i : Nat) (d : Option Tmp) (v : Value) {oi : Oper} {fuel : Nat} {listed : Array Bool} {rs : List Oper} (hr : Region.ready md ops listed = [i]) (hi : ops.toList.drop i = oi :: rs) (hd : oi.dst = d) (hw : Region.wanted oi (yielded ops a.tmps) = true)
    (hv : (execOp a.eval oi).run P w = .ok (.value v) w) (h : wpAny P md ops QE fuel (listed.setIfInBounds i true) (a.put d v) w) : wpAny P md ops QE (fuel + 1) listed a w := by
  subst hd
  refine wpAny_only i hr hi hw ?_
  show Oper.upon _ _ _ _ _ _
  rw [hv]
  exact h
/-- An operation whose guard does not hold. -/
theorem wpAny_skip {md : Region.Mode} {QE : Exit → Act → World → Prop} (i : Nat) (d : Option Tmp) {oi : Oper} {fuel : Nat} {listed : Array Bool} {rs : List Oper} (hi0 : ops.toList.drop i = oi :: rs) (hd : oi.dst = d)
    (hs : Region.noSelect ops = true) (hf : Region.free md ops listed i = true) (hr : (Region.ready md ops listed).contains i = true)
    (hQ : ∀ c a w, QE (.panic c) (a.put oi.dst undef) w → QE (.panic c) a w) (hw : Region.wanted oi (yielded ops a.tmps) = false)
    (h : wpAny P md ops QE fuel (listed.setIfInBounds i true) (a.put d undef) w) : wpAny P md ops QE (fuel + 1) listed a w := by
  subst hd
  exact wpAny_take (at_drop hi0) hs hf hr hQ (Or.inr ⟨hw, rfl⟩) h
/-- A call that alone may come up. -/
theorem wpAny_call {md : Region.Mode} {QE : Exit → Act → World → Prop} (i : Nat) (d : Option Tmp) {oi : Oper} {fuel : Nat} {listed : Array Bool} {rs : List Oper} (hr : Region.ready md ops listed = [i]) (hi : ops.toList.drop i = oi :: rs) (hd : oi.dst = d) (hw : Region.wanted oi (yielded ops a.tmps) = true)
    (f : FuncId) (vs : Array Value) (hrun : (execOp a.eval oi).run P w = .ok (.enter f vs) w) {Post : Ending → World → Prop} (hc : Calls P f vs w Post)
    (h : ∀ e w', Post e w' → ∃ v, e = .returned v ∧ wpAny P md ops QE fuel (listed.setIfInBounds i true) (a.put d v) w') : wpAny P md ops QE (fuel + 1) listed a w := by
  subst hd
  refine wpAny_only i hr hi hw ?_
  show Oper.upon _ _ _ _ _ _
  rw [hrun, Oper.upon_enter]
  refine hc.mono fun e w' hp => ?_
  obtain ⟨v, rfl, hv⟩ := h e w' hp
  exact hv
theorem Any.wanted_pos {p q : Prop} {c : Bool} (hc : c = true) (h : p) : if c = true then p else q := by
  rw [if_pos hc]
  exact h
end

end Go.Proofs.YtpboaadjbkaidaaDoor
