
/-
  Patterns compared: SamePattern.
-/
import Derived.Test.YtanpiidhcijfaaaRefE
import Derived.Test.YtanpiidhcijfaaaMatchA
import Derived.ChangeKeysEq
import Derived.Laws.StructEq
namespace Go.Proofs.Ytanpiidhcijfaaa
open Go.RowKit

theorem items_self {P : Program} (w : World) (d : Nat) (e : TypeId) (k : IntKind) (hu : P.underlying e = some (.int k)) (he : P.plainKey e = true) (xs : Array Value) (c : Nat) : ∀ is : List Nat, (∀ i ∈ is, ∃ n, xs[i * c]? = some (.int k n)) → (Op.eqItems (d + 1) e c xs xs is).run P w = .ok true w
  | [], _ => by simp [Op.eqItems]
  | i :: is, h => by
    obtain ⟨n, hn⟩ := h i List.mem_cons_self
    simp only [Op.eqItems, Sem.run_bind, run_part_plain w he hn, Result.andThen_ok, run_equalIn_int w d e k k n n hu]
    simp only [beq_self_eq_true, Bool.not_true, Bool.false_eq_true, if_false]
    exact items_self w d e k hu he xs c is fun j hj => h j (List.mem_cons_of_mem _ hj)
theorem arr_info : ∃ i, Try.prog.info? 5 = some i ∧ Try.prog.cellsOf 5 = 1 := by
  obtain ⟨i, hi⟩ : ∃ i, Try.prog.info? 5 = some i := Option.isSome_iff_exists.1 (by kernel_rfl)
  exact ⟨i, hi, by kernel_rfl⟩
theorem eq_set (w : World) (d : Nat) (p : Nat → Bool) : (Op.equalIn (d + 2) 35 (.agg (setC p).toArray) (.agg (setC p).toArray)).run Try.prog w = .ok true w := by
  obtain ⟨i, hi, hc⟩ := arr_info
  rw [run_equalIn_array w (d + 1) _ _ Try.underlying35 hi, hc]
  refine items_self w d _ _ Try.underlying5 (by kernel_rfl) _ 1 _ fun i hi => ?_
  refine ⟨(byteOf p i : Nat), ?_⟩
  rw [Nat.mul_one]
  have := setC_get p i (List.mem_range.1 hi)
  simpa using this
theorem part_set (w : World) (x : At) : (part 35 (atC x).toArray 0).run Try.prog w = .ok (.agg (setC x.p).toArray) w := by
  have e : (atC x).toArray.extract 0 (0 + 32) = (setC x.p).toArray := by
    unfold atC
    rw [List.extract_toArray]
    congr 1
  have h1 : ∀ w, (isAgg 35).run Try.prog w = .ok true w := fun w => by kernel_rfl
  have h2 : ∀ w, (sizeOf 35).run Try.prog w = .ok 32 w := fun w => by kernel_rfl
  simp only [part, Sem.run_bind, h1, Result.andThen_ok, if_true, h2, Sem.run_pure, e]
theorem part_mn (w : World) (x : At) : (part 3 (atC x).toArray 32).run Try.prog w = .ok (.int .i64 x.mn) w :=
  run_part_plain w (by kernel_rfl) (by simpa using atC_mn x)
theorem part_many (w : World) (x : At) : (part 4 (atC x).toArray 33).run Try.prog w = .ok (.bool x.many) w :=
  run_part_plain w (by kernel_rfl) (by simpa using atC_many x)
theorem eq_atom (w : World) (x : At) : (Op.equalIn 10000 37 (.agg (atC x).toArray) (.agg (atC x).toArray)).run Try.prog w = .ok true w := by
  rw [show (10000 : Nat) = 9999 + 1 from rfl, run_equalIn_struct w 9999 _ _ _ (by simp only [Program.fieldsOf, Try.underlying37]) (by kernel_rfl)]
  simp only [Program.fieldsOf, Try.underlying37, Op.eqFields]
  rw [show (9999 : Nat) = 9997 + 2 from rfl]
  simp only [Sem.run_ite, Sem.run_bind, part_set, part_mn, part_many, Result.andThen_ok, eq_set, run_equalIn_int w (9997 + 1) 3 _ _ x.mn x.mn Try.underlying3, run_equalIn_bool w (9997 + 1) 4 x.many x.many Try.underlying4]
  simp
theorem still_neq_atom {o : Oper} {a : Act} {w : World} {K : Act → Prop} (u v : Operand) (ty : TypeId) (ho : o.op = .binOp .neq 37 u v ty) (x : At) (hu : a.eval u = .agg (atC x).toArray) (hv : a.eval v = .agg (atC x).toArray) (h : K (a.put o.dst (.bool false))) : o.still Try.prog a w K := by
  unfold Oper.still execOp
  have hg : Try.prog.eqGuardType Try.prog.depth 37 = false := by kernel_rfl
  simp only [ho, hu, hv, Sem.run_bind, run_eqGuard_agg w _ _ _ _ _ _ hg, Result.andThen_ok, run_neq_struct, eq_atom, Sem.run_pure, Bool.not_true]
  rw [Oper.stillUpon_value]
  exact h

set_option maxRecDepth 100000 in
set_option maxHeartbeats 4000000 in
theorem same_any (l : List At) (va vb : Value) (w : World) (ha : RdE atC 34 w va l) (hb : RdE atC 34 w vb l) (hl : l.length ≤ 140737488355328) :
    Calls Try.prog 16 #[va, vb] w fun e w' => e = .returned (.bool true) ∧ Below w.heap.size w w' := by
  obtain ⟨A, c, rfl, hlc, _⟩ := ha.shape
  obtain ⟨A2, c2, rfl, hlc2, _⟩ := hb.shape
  have HA := Lib.hid ha
  have HB := Lib.hid hb
  clear ha hb
  have hu := Try.underlying37
  have hi : (Try.prog.info? 37).map (·.size) = some 34 := atom_size
  have tne : ((l.length : Int) != (l.length : Int)) = false := by simp
  go_enter Try.func16, Try.ntmps16
  go_wp2_with fail
  go_loopg [13] l.length (fun n kv wr => ∃ k : Nat, k ≤ l.length ∧ kv = .int .i64 k ∧ Hid (Below w.heap.size w wr) ∧ l.length - k ≤ n)
  case atStart => exact ⟨0, by omega, rfl, Below.refl _ _, by omega⟩
  case round =>
    obtain ⟨k, hk, rfl, HW, hgk⟩ := hrel
    by_cases hkl : k < l.length
    · have hki : (k : Int) < (l.length : Int) := by omega
      have hk0 : (0 : Int) ≤ (k : Int) := by omega
      obtain ⟨b, o, rfl, hbl, hcell⟩ := HA.out.cells (by omega)
      obtain ⟨b2, o2, rfl, hbl2, hcell2⟩ := HB.out.cells (by omega)
      have hx : l[k]? = some l[k] := List.getElem?_eq_getElem hkl
      have hrg : wr.drew.rangeAt b (o + k * 34) (atC l[k]) := fun j v hj => by
        rw [Nat.add_assoc]
        exact (HW.out.cell (p := ⟨b, o + (k * 34 + j), none⟩) hbl).trans (hcell k _ j v hx hj)
      have hrg2 : wr.drew.rangeAt b2 (o2 + k * 34) (atC l[k]) := fun j v hj => by
        rw [Nat.add_assoc]
        exact (HW.out.cell (p := ⟨b2, o2 + (k * 34 + j), none⟩) hbl2).trans (hcell2 k _ j v hx hj)
      clear hcell hcell2 hx
      generalize l[k] = x at hrg hrg2
      go_upto_region 6 with fail
      refine wp_region_still_lit (by kernel_rfl) (by kernel_rfl) ?_
      still_step
      still_step
      still_step
      refine wpStill_step (fun K hK => ?_)
      rw [if_pos (by rfl)]
      refine still_load_mid _ _ rfl _ _ rfl (atC x) _ hrg hu rfl (by rw [hi, atC_len]) ?_
      refine hK _ ?_
      clear hK K
      still_step
      still_step
      still_step
      refine wpStill_step (fun K hK => ?_)
      rw [if_pos (by rfl)]
      refine still_load_mid _ _ rfl _ _ rfl (atC x) _ hrg2 hu rfl (by rw [hi, atC_len]) ?_
      refine hK _ ?_
      clear hK K
      refine wpStill_step (fun K hK => ?_)
      rw [if_pos (by rfl)]
      refine still_neq_atom _ _ _ rfl x rfl rfl ?_
      refine hK _ ?_
      clear hK K
      refine wpStill_nil ?_
      have HW2 : Hid (Below w.heap.size w wr.drew) := HW.out.drew
      clear HW hrg hrg2
      show Exit.then _ _ Exit.normal _ wr.drew
      generalize wr.drew = w3 at HW2 ⊢
      simp only [Act.put, List.setIfInBounds_toArray, List.set_cons_zero, List.set_cons_succ]
      go_wp2_with fail
      go_roundg (l.length - (k + 1))
      case measure => omega
      case rel => exact ⟨k + 1, by omega, by go_num, HW2.out, Nat.le_refl _⟩
    · have hki : ¬ (k : Int) < (l.length : Int) := by omega
      go_wp2_with fail
      go_ret
      exact ⟨rfl, HW.out⟩

end Go.Proofs.Ytanpiidhcijfaaa
