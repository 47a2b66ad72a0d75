/-
  Contracts and plain laws that this claim leans on, part 3.
-/
import Derived.Test.YtpboaadjbkaidaaDoorPackV2
import Derived.Test.YtpboaadjbkaidaaDoorPackV1
import Derived.Laws.Tables
import Derived.Great.BuildSlice
import Derived.Deep.OwnRows
import Derived.Deep.LoopGhost
import Derived.Deep.DeepCutAuto
import Derived.Deep.CutBlock
import Derived.Deep.RegionHeld3
import Derived.Deep.MidRow
import Derived.StillTailTactics
set_option linter.unusedVariables false
set_option linter.unusedSimpArgs false
namespace Go.Proofs.YtpboaadjbkaidaaDoor
set_option maxRecDepth 100000
open Go.RowKit

set_option maxRecDepth 100000 in
theorem built_atom (p : Nat → Bool) : Tryd.prog.built 26 [(1, .int .i64 1), (0, .agg (setC p).toArray)] = some (atC ⟨p, 1, false⟩).toArray := by kernel_rfl
set_option maxRecDepth 100000 in
theorem fill_atom (x : At) : Instr.fill (fun i => some (i * 34, 34)) ((Array.range (1 * 34)).map ((Value.agg (atC ⟨noP, 0, false⟩).toArray).cells[· % (Value.agg (atC ⟨noP, 0, false⟩).toArray).cells.size]!)) [(0, .agg (atC x).toArray)] = some (atC x).toArray := by kernel_rfl
theorem atom_info : (Tryd.prog.info? 26).map (fun i => (i.zero, i.size, i.bytes)) = some (some (.agg (atC ⟨noP, 0, false⟩).toArray), 34, 48) := by kernel_rfl
/-- The atom in block g. -/
def AtIn (w : World) (g : Nat) (x : At) : Prop := w.heap[g]? = some (.cells (atC x).toArray 26)
theorem AtIn.setMn {w : World} {g : Nat} {p : Nat → Bool} {mn : Int} {many : Bool} (h : AtIn w g ⟨p, mn, many⟩) (k : Int) : AtIn (w.setCell ⟨g, 32, none⟩ (.int .i64 k)) g ⟨p, k, many⟩ := by
  unfold AtIn at *
  rw [heap_setCell_same w g 32 _ _ _ h]
  rfl
theorem AtIn.setMany {w : World} {g : Nat} {p : Nat → Bool} {mn : Int} {many : Bool} (h : AtIn w g ⟨p, mn, many⟩) (k : Bool) : AtIn (w.setCell ⟨g, 33, none⟩ (.bool k)) g ⟨p, mn, k⟩ := by
  unfold AtIn at *
  rw [heap_setCell_same w g 33 _ _ _ h]
  rfl
theorem at_zero (w : World) : AtIn (w.alloc (.cells #[.int .u8 0, .int .u8 0, .int .u8 0, .int .u8 0, .int .u8 0, .int .u8 0, .int .u8 0, .int .u8 0, .int .u8 0, .int .u8 0, .int .u8 0, .int .u8 0, .int .u8 0, .int .u8 0, .int .u8 0, .int .u8 0, .int .u8 0, .int .u8 0, .int .u8 0, .int .u8 0, .int .u8 0, .int .u8 0, .int .u8 0, .int .u8 0, .int .u8 0, .int .u8 0, .int .u8 0, .int .u8 0, .int .u8 0, .int .u8 0, .int .u8 0, .int .u8 0, .int .i64 0, .bool false] 26)) w.heap.size ⟨noP, 0, false⟩ := by
  have e : (#[.int .u8 0, .int .u8 0, .int .u8 0, .int .u8 0, .int .u8 0, .int .u8 0, .int .u8 0, .int .u8 0, .int .u8 0, .int .u8 0, .int .u8 0, .int .u8 0, .int .u8 0, .int .u8 0, .int .u8 0, .int .u8 0, .int .u8 0, .int .u8 0, .int .u8 0, .int .u8 0, .int .u8 0, .int .u8 0, .int .u8 0, .int .u8 0, .int .u8 0, .int .u8 0, .int .u8 0, .int .u8 0, .int .u8 0, .int .u8 0, .int .u8 0, .int .u8 0, .int .i64 0, .bool false] : Array Value) = (atC ⟨noP, 0, false⟩).toArray := by kernel_rfl
  rw [e]
  exact heap_alloc_new w _
theorem AtIn.row {w : World} {g : Nat} {x : At} (h : AtIn w g x) (y : At) : AtIn (w.setRow g (atC y).toArray) g y := setRow_heap w g _ _ _ _ h
theorem atom_size : (Tryd.prog.info? 26).map (·.size) = some 34 := by kernel_rfl
theorem atC_size (x : At) : (atC x).toArray.size = 34 := by rw [List.size_toArray, atC_len]
theorem atC_oneA (x : At) : (atC x).toArray.all (·.oneCell') = true := by
  rw [Array.all_eq_true_iff_forall_mem]
  intro v hv
  have h := List.mem_toArray.1 hv
  unfold atC at h
  rcases List.mem_append.1 h with h | h
  · have := (Array.all_eq_true_iff_forall_mem.1 (setC_one x.p)) v (List.mem_toArray.2 h)
    exact this
  · simp at h
    rcases h with rfl | rfl <;> rfl
theorem wpList_buildAtom {ops : Array Oper} {rest : List Oper} {o : Oper} {a : Act} {w : World} {Q : Exit → Act → World → Prop} (hg : o.guard = none) (x : Operand) (ho : o.op = .build 26 #[(1, .const (.int .i64 1)), (0, x)]) (p : Nat → Bool)
    (hx : a.eval x = .agg (setC p).toArray)
    (h : wpList Tryd.prog ops Q rest (a.put o.dst (.agg (atC ⟨p, 1, false⟩).toArray)) w) : wpList Tryd.prog ops Q (o :: rest) a w := by
  have hp : (Array.map (fun ((i, x) : Nat × Operand) => (i, a.eval x)) #[(1, .const (.int .i64 1)), (0, x)]).toList = [(1, .int .i64 1), (0, .agg (setC p).toArray)] := by
    simp only [List.map_toArray, List.map_cons, List.map_nil, hx]
    rfl
  exact wpList_build hg 26 _ ho (by rw [hp, built_atom]; rfl) (by rw [hp, built_atom]; exact h)
theorem AtIn.mn {w : World} {g : Nat} {x : At} (h : AtIn w g x) : w.cell? ⟨g, 32, none⟩ = some (.int .i64 x.mn) := by
  rw [cell_of_row _ _ _ _ _ _ h]
  simpa using atC_mn x
theorem AtIn.many {w : World} {g : Nat} {x : At} (h : AtIn w g x) : w.cell? ⟨g, 33, none⟩ = some (.bool x.many) := by
  rw [cell_of_row _ _ _ _ _ _ h]
  simpa using atC_many x
theorem AtIn.free {w : World} {g : Nat} {x : At} (h : AtIn w g x) (k : Nat) : w.frozen? ⟨g, k, none⟩ = false := frozen_of_row w g k _ _ h
theorem AtIn.keep {w w' : World} {g : Nat} {x : At} (h : AtIn w g x) (e : w'.heap[g]? = w.heap[g]?) : AtIn w' g x := e.trans h
theorem atC_one (x : At) : ∀ u ∈ atC x, u.oneCell' = true := fun u hu => (Array.all_eq_true_iff_forall_mem.1 (atC_oneA x)) u (List.mem_toArray.2 hu)
theorem below_set {a w : World} {B g : Nat} (h : Below B a w) (hg : B ≤ g) (k : Nat) (u : Value) : Below B a (w.setCell ⟨g, k, none⟩ u) := h.setCell hg _
theorem own_setAt {w : World} {B : Nat} {e : TypeId} {size n : Nat} {v : Value} {xs : List Value} {g : Nat} (h : w.ownsRow B e size v n xs) (hk : ∀ k, v.ownBlock = some k → k ≠ g) (j : Nat) (u : Value) : (w.setCell ⟨g, j, none⟩ u).ownsRow B e size v n xs :=
  own_same h fun k hv => Below.heap_setCell _ _ _ _ (hk k hv)
theorem wpList_buildOne {ops : Array Oper} {rest : List Oper} {o : Oper} {a : Act} {w : World} {Q : Exit → Act → World → Prop} (hg : o.guard = none) (x : Operand) (ho : o.op = .buildSlice 28 1 #[(0, x)]) (y : At) (hx : a.eval x = .agg (atC y).toArray)
    (h : wpList Tryd.prog ops Q rest (a.put o.dst (.slice (some ⟨w.heap.size, 0, none⟩) 1 1)) (w.alloc (.cells (atC y).toArray 26))) : wpList Tryd.prog ops Q (o :: rest) a w := by
  obtain ⟨i, hi, hz, hsize, hby⟩ := info_parts atom_info
  refine wpList_buildSlice hg 28 26 1 #[(0, x)] ho (atC y).toArray i _ Tryd.underlying28 hi hz (by rw [hsize]; decide) (by rw [hsize]; decide) ?_ h
  rw [hsize]
  simp only [List.map_toArray, List.map_cons, List.map_nil, hx]
  exact fill_atom y
/-- What a call of Parse gives. -/
def RetPar (w : World) (r : List At × Nat × Int) (e : Ending) (w' : World) : Prop := ∃ v, e = .returned (.tuple #[v, .int .i64 (r.2.1 : Nat), .int .i64 r.2.2]) ∧ OwnE 26 atC 34 w' w.heap.size v r.1 ∧ Below w.heap.size w w'

set_option maxRecDepth 100000 in
set_option maxHeartbeats 4000000 in
theorem parse_any (w : World) (s : ByteArray) (hs : s.size ≤ 2147483648) :
    Calls Tryd.prog 113 #[.string s] w (RetPar w (parseF s)) := by
  have HS0 : Hid (ScIn (w.alloc (.cells #[.string s, .int .i64 0, .bool false] 137)) w.heap.size s 0 false) := heap_alloc_new w _
  have HB0 := Lib.hid ((Below.refl w.heap.size w).alloc (Nat.le_refl _) (.cells #[.string s, .int .i64 0, .bool false] 137))
  generalize hV : parseF s = V
  have HV : Hid (parseL s (s.size + 1) 0 [] = V) := hV
  clear hV
  go_enter Tryd.func113, Tryd.ntmps113
  go_wp2_with fail
  generalize w.alloc (.cells #[.string s, .int .i64 0, .bool false] 137) = w1 at HS0 HB0 ⊢
  go_loopw [2] (fun kv wr => ∃ (i : Nat) (l : List At), Hid (ScIn wr w.heap.size s i false) ∧ i ≤ s.size ∧ l.length ≤ 32 ∧ Hid (OwnE 26 atC 34 wr (w.heap.size + 1) kv l) ∧ Hid (Below w.heap.size w wr) ∧ ∃ f, Hid (s.size - i < f ∧ parseL s f i l = V)) (fun kv _ => 33 - (match kv with | .slice _ n _ => n | _ => 0))
  case atStart => exact ⟨0, [], HS0.out, by omega, by simp, OwnE.nil, HB0.out, s.size + 1, by omega, HV.out⟩
  case round =>
    clear HS0 HB0 HV
    obtain ⟨i, l, HS, hi, hl, HO, HB, f, HX⟩ := hrel
    obtain ⟨A, cA, hkv⟩ := own_shape HO.out
    subst hkv
    obtain ⟨f', HF'⟩ : ∃ f', Hid (f = f' + 1) := ⟨f - 1, by have := HX.out.1; show _ = _; omega⟩
    by_cases hlt : i < s.size
    · have HX1 : Hid (s.size - i < f' + 1 ∧ (if 32 ≤ l.length then ([], i, 3) else if (outF s i).bad = true then ([], (outF s i).j, 2) else parseL s f' (quantF s (outF s i).j).2.2 (l ++ [⟨(outF s i).p, (quantF s (outF s i).j).1, (quantF s (outF s i).j).2.1⟩])) = V) := by
        have h := HX.out
        rw [HF'.out] at h
        unfold parseL at h
        rw [if_pos hlt] at h
        exact h
      clear HX HF'
      go_upto_region 3 with (go_at_call 120; refine (more_any _ w.heap.size s i false (by exact HS.out) (by unfold maxLen; omega)).mono ?_; rintro e w' ⟨rfl, nm, rfl⟩)
      have HS1 : Hid (ScIn (wr.drewN nm) w.heap.size s i false) := HS.out
      have HO1 : Hid (OwnE 26 atC 34 (wr.drewN nm) (w.heap.size + 1) (.slice A l.length cA) l) := HO.out
      have HB1 : Hid (Below w.heap.size w (wr.drewN nm)) := below_drewN HB.out nm
      clear HS HO HB
      generalize wr.drewN nm = w2 at HS1 HO1 HB1 ⊢
      have q1 := HS1.out.c1
      by_cases h32 : 32 ≤ l.length
      · have HVE : Hid (V = ([], i, 3)) := by show _ = _; rw [← HX1.out.2, if_pos h32]
        go_wp2_with fail
        go_ret3
        rw [HVE.out]
        exact ⟨_, rfl, OwnE.nil, HB1.out⟩
      · have HX2 : Hid (s.size - i < f' + 1 ∧ (if (outF s i).bad = true then ([], (outF s i).j, 2) else parseL s f' (quantF s (outF s i).j).2.2 (l ++ [⟨(outF s i).p, (quantF s (outF s i).j).1, (quantF s (outF s i).j).2.1⟩])) = V) := by
          have h := HX1.out
          rw [if_neg h32] at h
          exact h
        have HJ := Lib.hid (outF_ok s i hlt)
        have HE := Lib.hid (outside_any w2 w.heap.size s i HS1.out hlt hs)
        obtain ⟨⟨p0, b0, one0, j0, bad0⟩, HD⟩ : ∃ r, Hid (r = outF s i) := ⟨_, rfl⟩
        rw [← HD.out] at HX2 HJ HE
        clear HD HX1
        go_upto_region 7 with (first
          | (go_at_call 121; refine HE.out.mono ?_; rintro e w3 ⟨rfl, hs3, ho3⟩; rename_i K8 hK8; dsimp only at hs3 ⊢; refine hK8 _ _ ?_; clear hK8; refine wpList_buildAtom rfl (.tmp 22) rfl p0 rfl ?_)
          | (refine wpList_store_row rfl 26 (.tmp 7) (.tmp 23) rfl (w3.heap.size) (atC ⟨p0, 1, false⟩).toArray rfl rfl 26 (atC ⟨noP, 0, false⟩).toArray (at_zero w3) (by rw [atom_size, atC_size]) (by simp only [atC_size]) (atC_oneA _) ?_))
        have hR3 := hs3.lt
        have HS3 := Lib.hid ((hs3.below ((Below.refl _ w3).alloc (Nat.le_refl _) (.cells #[.int .u8 0, .int .u8 0, .int .u8 0, .int .u8 0, .int .u8 0, .int .u8 0, .int .u8 0, .int .u8 0, .int .u8 0, .int .u8 0, .int .u8 0, .int .u8 0, .int .u8 0, .int .u8 0, .int .u8 0, .int .u8 0, .int .u8 0, .int .u8 0, .int .u8 0, .int .u8 0, .int .u8 0, .int .u8 0, .int .u8 0, .int .u8 0, .int .u8 0, .int .u8 0, .int .u8 0, .int .u8 0, .int .u8 0, .int .u8 0, .int .u8 0, .int .u8 0, .int .i64 0, .bool false] 26))).keep (w' := (w3.alloc (.cells #[.int .u8 0, .int .u8 0, .int .u8 0, .int .u8 0, .int .u8 0, .int .u8 0, .int .u8 0, .int .u8 0, .int .u8 0, .int .u8 0, .int .u8 0, .int .u8 0, .int .u8 0, .int .u8 0, .int .u8 0, .int .u8 0, .int .u8 0, .int .u8 0, .int .u8 0, .int .u8 0, .int .u8 0, .int .u8 0, .int .u8 0, .int .u8 0, .int .u8 0, .int .u8 0, .int .u8 0, .int .u8 0, .int .u8 0, .int .u8 0, .int .u8 0, .int .u8 0, .int .i64 0, .bool false] 26)).setRow w3.heap.size (atC ⟨p0, 1, false⟩).toArray) (setRow_other _ _ _ _ (by omega)))
        have HA3 := Lib.hid ((at_zero w3).row ⟨p0, 1, false⟩)
        have HB3 : Hid (Below w.heap.size w ((w3.alloc (.cells #[.int .u8 0, .int .u8 0, .int .u8 0, .int .u8 0, .int .u8 0, .int .u8 0, .int .u8 0, .int .u8 0, .int .u8 0, .int .u8 0, .int .u8 0, .int .u8 0, .int .u8 0, .int .u8 0, .int .u8 0, .int .u8 0, .int .u8 0, .int .u8 0, .int .u8 0, .int .u8 0, .int .u8 0, .int .u8 0, .int .u8 0, .int .u8 0, .int .u8 0, .int .u8 0, .int .u8 0, .int .u8 0, .int .u8 0, .int .u8 0, .int .u8 0, .int .u8 0, .int .i64 0, .bool false] 26)).setRow w3.heap.size (atC ⟨p0, 1, false⟩).toArray)) := below_setRow ((HB1.out.trans (ho3.below (Nat.le_refl _) HB1.out.size)).alloc (Nat.le_of_lt hR3) _) (Nat.le_of_lt hR3) _
        have HO3 : Hid (OwnE 26 atC 34 ((w3.alloc (.cells #[.int .u8 0, .int .u8 0, .int .u8 0, .int .u8 0, .int .u8 0, .int .u8 0, .int .u8 0, .int .u8 0, .int .u8 0, .int .u8 0, .int .u8 0, .int .u8 0, .int .u8 0, .int .u8 0, .int .u8 0, .int .u8 0, .int .u8 0, .int .u8 0, .int .u8 0, .int .u8 0, .int .u8 0, .int .u8 0, .int .u8 0, .int .u8 0, .int .u8 0, .int .u8 0, .int .u8 0, .int .u8 0, .int .u8 0, .int .u8 0, .int .u8 0, .int .u8 0, .int .i64 0, .bool false] 26)).setRow w3.heap.size (atC ⟨p0, 1, false⟩).toArray) (w.heap.size + 1) (.slice A l.length cA) l) := own_same HO1.out fun k hk => by
          have h1 := HO1.out.lt k hk
          rw [setRow_other _ _ _ _ (by have := ho3.size; omega), Below.heap_alloc _ _ _ (by have := ho3.size; omega)]
          exact ho3.block k h1.2 (by omega)
        have hg3 : w.heap.size < w3.heap.size := hR3
        have HG : Hid (∀ k, (Value.slice A l.length cA).ownBlock = some k → k ≠ w3.heap.size) := fun k hk => by
          have h1 := HO1.out.lt k hk
          have := ho3.size
          omega
        have HGR : Hid (∀ k, (Value.slice A l.length cA).ownBlock = some k → k ≠ w.heap.size) := fun k hk => by
          have h1 := HO1.out.lt k hk
          omega
        clear hs3 ho3 HS1 HO1 HB1 HE q1 hR3
        generalize hw3 : w3.heap.size = g at HS3 HA3 HB3 HO3 hg3 HG ⊢
        generalize (w3.alloc (.cells #[.int .u8 0, .int .u8 0, .int .u8 0, .int .u8 0, .int .u8 0, .int .u8 0, .int .u8 0, .int .u8 0, .int .u8 0, .int .u8 0, .int .u8 0, .int .u8 0, .int .u8 0, .int .u8 0, .int .u8 0, .int .u8 0, .int .u8 0, .int .u8 0, .int .u8 0, .int .u8 0, .int .u8 0, .int .u8 0, .int .u8 0, .int .u8 0, .int .u8 0, .int .u8 0, .int .u8 0, .int .u8 0, .int .u8 0, .int .u8 0, .int .u8 0, .int .u8 0, .int .i64 0, .bool false] 26)).setRow g (atC ⟨p0, 1, false⟩).toArray = w4 at HS3 HA3 HB3 HO3 ⊢
        clear hw3
        have q2 := HS3.out.c2
        have q1 := HS3.out.c1
        by_cases hbad : bad0 = true
        · subst hbad
          have HVE : Hid (V = ([], j0, 2)) := by show _ = _; rw [← HX2.out.2, if_pos rfl]
          go_wp2_with fail
          go_quiet (fail)
          go_wp2_with fail
          go_ret3
          rw [HVE.out]
          exact ⟨_, rfl, OwnE.nil, below_drewN HB3.out _⟩
        · have hbad' : bad0 = false := by simpa using hbad
          subst hbad'
          have hj1 : i < j0 := (HJ.out rfl).1
          have hj2 : j0 ≤ s.size := (HJ.out rfl).2
          have HX3 : Hid (s.size - i < f' + 1 ∧ parseL s f' (quantF s j0).2.2 (l ++ [⟨p0, (quantF s j0).1, (quantF s j0).2.1⟩]) = V) := by
            have h := HX2.out
            rw [if_neg (by simp)] at h
            exact h
          clear HX2 HJ hbad q1
          by_cases hj0 : j0 < s.size
          · have hj0i : (j0 : Int) < (s.size : Int) := by omega
            go_upto_region 10 with (go_at_call 120; refine (more_any _ w.heap.size s j0 false (by exact HS3.out) (by unfold maxLen; omega)).mono ?_; rintro e w' ⟨rfl, nm, rfl⟩)
            have HS5 : Hid (ScIn (w4.drewN nm) w.heap.size s j0 false) := HS3.out
            have HA5 : Hid (AtIn (w4.drewN nm) g ⟨p0, 1, false⟩) := HA3.out
            have HO5 : Hid (OwnE 26 atC 34 (w4.drewN nm) (w.heap.size + 1) (.slice A l.length cA) l) := HO3.out
            have HB5 : Hid (Below w.heap.size w (w4.drewN nm)) := below_drewN HB3.out nm
            clear HS3 HA3 HO3 HB3 q2
            generalize w4.drewN nm = w5 at HS5 HA5 HB5 HO5 ⊢
            have q0 := HS5.out.c0
            have q1 := HS5.out.c1
            have f1 := HS5.out.free 1
            have r32 : w5.cell? ⟨g, 32, none⟩ = some (.int .i64 1) := HA5.out.mn
            have r33 : w5.cell? ⟨g, 33, none⟩ = some (.bool false) := HA5.out.many
            have g32 := HA5.out.free 32
            have g33 := HA5.out.free 33
            by_cases h42 : s[j0].toNat = 42
            · have t42 : ((s[j0].toNat : Int) == 42) = true := beq_iff_eq.2 (by omega)
              have h42' : bt s j0 = 42 := by rw [bt_get s j0 hj0]; exact h42
              clear h42
              have HQ : Hid (quantF s j0 = (0, true, j0 + 1)) := by
                show _ = _
                unfold quantF
                rw [if_pos hj0, if_pos h42']
              have HS6 : Hid (ScIn (((w5.setCell ⟨g, 32, none⟩ (.int .i64 0)).setCell ⟨g, 33, none⟩ (.bool true)).setCell ⟨w.heap.size, 1, none⟩ (.int .i64 ((j0 + 1 : Nat) : Int))) w.heap.size s (j0 + 1) false) := (((HS5.out.other (Nat.ne_of_lt hg3) 32 (.int .i64 0)).other (Nat.ne_of_lt hg3) 33 (.bool true)).set1 (j0 + 1))
              have HA6 : Hid (AtIn (((w5.setCell ⟨g, 32, none⟩ (.int .i64 0)).setCell ⟨g, 33, none⟩ (.bool true)).setCell ⟨w.heap.size, 1, none⟩ (.int .i64 ((j0 + 1 : Nat) : Int))) g ⟨p0, 0, true⟩) := (((HA5.out.setMn _).setMany _).keep (Below.heap_setCell _ ⟨w.heap.size, 1, none⟩ _ _ (Nat.ne_of_gt hg3)))
              have HB6 : Hid (Below w.heap.size w (((w5.setCell ⟨g, 32, none⟩ (.int .i64 0)).setCell ⟨g, 33, none⟩ (.bool true)).setCell ⟨w.heap.size, 1, none⟩ (.int .i64 ((j0 + 1 : Nat) : Int)))) := (below_set (below_set (below_set HB5.out (Nat.le_of_lt hg3) _ _) (Nat.le_of_lt hg3) _ _) (Nat.le_refl _) _ _)
              have HO6 : Hid (OwnE 26 atC 34 (((w5.setCell ⟨g, 32, none⟩ (.int .i64 0)).setCell ⟨g, 33, none⟩ (.bool true)).setCell ⟨w.heap.size, 1, none⟩ (.int .i64 ((j0 + 1 : Nat) : Int))) (w.heap.size + 1) (.slice A l.length cA) l) := (own_setAt (own_setAt (own_setAt HO5.out HG.out _ _) HG.out _ _) HGR.out _ _)
              go_upto_region 20 with fail
              rw [show (j0 : Int) + 1 = ((j0 + 1 : Nat) : Int) by omega]
              clear HS5 HA5 HB5 HO5 q0 q1 f1 r32 r33 g32 g33
              generalize ((w5.setCell ⟨g, 32, none⟩ (.int .i64 0)).setCell ⟨g, 33, none⟩ (.bool true)).setCell ⟨w.heap.size, 1, none⟩ (.int .i64 ((j0 + 1 : Nat) : Int)) = w6 at HS6 HA6 HB6 HO6 ⊢
              have hz6 := HS6.out.lt
              go_wp2_with (first
                | (refine wpList_load_row rfl 26 (.tmp 7) rfl (g) rfl 26 (atC ⟨p0, 0, true⟩).toArray (0, 0) _ HA6.out Tryd.underlying26 rfl (by rw [atom_size, atC_size]) ?_)
                | (refine wpList_buildOne rfl (.tmp 72) (by rfl) ⟨p0, 0, true⟩ (by rfl) ?_)
                | (refine wpList_app1 rfl (.tmp 71) (.tmp 73) 28 26 rfl Tryd.underlying28 _ 34 48 atom_info rfl (by decide) (w.heap.size + 1) (.slice A l.length cA) l.length (l.flatMap atC) rfl (own_below HO6.out ((Below.refl _ w6).alloc (Nat.le_refl _) _) (Nat.le_refl _)) ⟨w6.heap.size, 0, none⟩ 1 (atC ⟨p0, 0, true⟩) rfl (atC_len _) (cells_new w6 (atC ⟨p0, 0, true⟩) 26) (atC_one _) (by omega) (by decide) (by simp; omega) ?_; intro g2 cap w9 hown9 hbg9 hbel9 hgrow9))
              have HS9 := Lib.hid (HS6.out.keep ((hbel9 (w.heap.size + 1) w6 (Nat.le_refl _) ((Below.refl _ w6).alloc (by omega) _)).block _ (Nat.lt_succ_self _)))
              have HB9 := Lib.hid (hbel9 w.heap.size w (Nat.le_succ _) (HB6.out.alloc (by omega) _))
              have HO9 : Hid (OwnE 26 atC 34 w9 (w.heap.size + 1) (.slice (some ⟨g2, 0, none⟩) (l.length + 1) cap) (l ++ [⟨p0, 0, true⟩])) := OwnE.snoc hown9
              have HXE : Hid (s.size - (j0 + 1) < f' ∧ parseL s f' (j0 + 1) (l ++ [⟨p0, 0, true⟩]) = V) := by
                have h := HX3.out
                rw [HQ.out] at h
                exact ⟨by omega, h.2⟩
              clear hown9 hbel9 hgrow9 HX3 HQ HS6 HA6 HB6 HO6
              go_roundw
              case rel => exact ⟨(j0 + 1), l ++ [(At.mk p0 0 true)], HS9.out, by omega, by simp; omega, HO9.out, HB9.out, f', HXE.out⟩
              case measure => simp; omega
            · have t42 : ((s[j0].toNat : Int) == 42) = false := beq_eq_false_iff_ne.2 (by omega)
              have h42' : ¬ bt s j0 = 42 := by rw [bt_get s j0 hj0]; exact h42
              clear h42
              by_cases h43 : s[j0].toNat = 43
              · have t43 : ((s[j0].toNat : Int) == 43) = true := beq_iff_eq.2 (by omega)
                have h43' : bt s j0 = 43 := by rw [bt_get s j0 hj0]; exact h43
                clear h43
                have HQ : Hid (quantF s j0 = (1, true, j0 + 1)) := by
                  show _ = _
                  unfold quantF
                  rw [if_pos hj0, if_neg h42', if_pos h43']
                have HS6 : Hid (ScIn ((w5.setCell ⟨g, 33, none⟩ (.bool true)).setCell ⟨w.heap.size, 1, none⟩ (.int .i64 ((j0 + 1 : Nat) : Int))) w.heap.size s (j0 + 1) false) := ((HS5.out.other (Nat.ne_of_lt hg3) 33 (.bool true)).set1 (j0 + 1))
                have HA6 : Hid (AtIn ((w5.setCell ⟨g, 33, none⟩ (.bool true)).setCell ⟨w.heap.size, 1, none⟩ (.int .i64 ((j0 + 1 : Nat) : Int))) g ⟨p0, 1, true⟩) := ((HA5.out.setMany _).keep (Below.heap_setCell _ ⟨w.heap.size, 1, none⟩ _ _ (Nat.ne_of_gt hg3)))
                have HB6 : Hid (Below w.heap.size w ((w5.setCell ⟨g, 33, none⟩ (.bool true)).setCell ⟨w.heap.size, 1, none⟩ (.int .i64 ((j0 + 1 : Nat) : Int)))) := (below_set (below_set HB5.out (Nat.le_of_lt hg3) _ _) (Nat.le_refl _) _ _)
                have HO6 : Hid (OwnE 26 atC 34 ((w5.setCell ⟨g, 33, none⟩ (.bool true)).setCell ⟨w.heap.size, 1, none⟩ (.int .i64 ((j0 + 1 : Nat) : Int))) (w.heap.size + 1) (.slice A l.length cA) l) := (own_setAt (own_setAt HO5.out HG.out _ _) HGR.out _ _)
                go_upto_region 20 with fail
                rw [show (j0 : Int) + 1 = ((j0 + 1 : Nat) : Int) by omega]
                clear HS5 HA5 HB5 HO5 q0 q1 f1 r32 r33 g32 g33
                generalize (w5.setCell ⟨g, 33, none⟩ (.bool true)).setCell ⟨w.heap.size, 1, none⟩ (.int .i64 ((j0 + 1 : Nat) : Int)) = w6 at HS6 HA6 HB6 HO6 ⊢
                have hz6 := HS6.out.lt
                go_wp2_with (first
                  | (refine wpList_load_row rfl 26 (.tmp 7) rfl (g) rfl 26 (atC ⟨p0, 1, true⟩).toArray (0, 0) _ HA6.out Tryd.underlying26 rfl (by rw [atom_size, atC_size]) ?_)
                  | (refine wpList_buildOne rfl (.tmp 72) (by rfl) ⟨p0, 1, true⟩ (by rfl) ?_)
                  | (refine wpList_app1 rfl (.tmp 71) (.tmp 73) 28 26 rfl Tryd.underlying28 _ 34 48 atom_info rfl (by decide) (w.heap.size + 1) (.slice A l.length cA) l.length (l.flatMap atC) rfl (own_below HO6.out ((Below.refl _ w6).alloc (Nat.le_refl _) _) (Nat.le_refl _)) ⟨w6.heap.size, 0, none⟩ 1 (atC ⟨p0, 1, true⟩) rfl (atC_len _) (cells_new w6 (atC ⟨p0, 1, true⟩) 26) (atC_one _) (by omega) (by decide) (by simp; omega) ?_; intro g2 cap w9 hown9 hbg9 hbel9 hgrow9))
                have HS9 := Lib.hid (HS6.out.keep ((hbel9 (w.heap.size + 1) w6 (Nat.le_refl _) ((Below.refl _ w6).alloc (by omega) _)).block _ (Nat.lt_succ_self _)))
                have HB9 := Lib.hid (hbel9 w.heap.size w (Nat.le_succ _) (HB6.out.alloc (by omega) _))
                have HO9 : Hid (OwnE 26 atC 34 w9 (w.heap.size + 1) (.slice (some ⟨g2, 0, none⟩) (l.length + 1) cap) (l ++ [⟨p0, 1, true⟩])) := OwnE.snoc hown9
                have HXE : Hid (s.size - (j0 + 1) < f' ∧ parseL s f' (j0 + 1) (l ++ [⟨p0, 1, true⟩]) = V) := by
                  have h := HX3.out
                  rw [HQ.out] at h
                  exact ⟨by omega, h.2⟩
                clear hown9 hbel9 hgrow9 HX3 HQ HS6 HA6 HB6 HO6
                go_roundw
                case rel => exact ⟨(j0 + 1), l ++ [(At.mk p0 1 true)], HS9.out, by omega, by simp; omega, HO9.out, HB9.out, f', HXE.out⟩
                case measure => simp; omega
              · have t43 : ((s[j0].toNat : Int) == 43) = false := beq_eq_false_iff_ne.2 (by omega)
                have h43' : ¬ bt s j0 = 43 := by rw [bt_get s j0 hj0]; exact h43
                clear h43
                by_cases h63 : s[j0].toNat = 63
                · have t63 : ((s[j0].toNat : Int) == 63) = true := beq_iff_eq.2 (by omega)
                  have h63' : bt s j0 = 63 := by rw [bt_get s j0 hj0]; exact h63
                  clear h63
                  have HQ : Hid (quantF s j0 = (0, false, j0 + 1)) := by
                    show _ = _
                    unfold quantF
                    rw [if_pos hj0, if_neg h42', if_neg h43', if_pos h63']
                  have HS6 : Hid (ScIn ((w5.setCell ⟨g, 32, none⟩ (.int .i64 0)).setCell ⟨w.heap.size, 1, none⟩ (.int .i64 ((j0 + 1 : Nat) : Int))) w.heap.size s (j0 + 1) false) := ((HS5.out.other (Nat.ne_of_lt hg3) 32 (.int .i64 0)).set1 (j0 + 1))
                  have HA6 : Hid (AtIn ((w5.setCell ⟨g, 32, none⟩ (.int .i64 0)).setCell ⟨w.heap.size, 1, none⟩ (.int .i64 ((j0 + 1 : Nat) : Int))) g ⟨p0, 0, false⟩) := ((HA5.out.setMn _).keep (Below.heap_setCell _ ⟨w.heap.size, 1, none⟩ _ _ (Nat.ne_of_gt hg3)))
                  have HB6 : Hid (Below w.heap.size w ((w5.setCell ⟨g, 32, none⟩ (.int .i64 0)).setCell ⟨w.heap.size, 1, none⟩ (.int .i64 ((j0 + 1 : Nat) : Int)))) := (below_set (below_set HB5.out (Nat.le_of_lt hg3) _ _) (Nat.le_refl _) _ _)
                  have HO6 : Hid (OwnE 26 atC 34 ((w5.setCell ⟨g, 32, none⟩ (.int .i64 0)).setCell ⟨w.heap.size, 1, none⟩ (.int .i64 ((j0 + 1 : Nat) : Int))) (w.heap.size + 1) (.slice A l.length cA) l) := (own_setAt (own_setAt HO5.out HG.out _ _) HGR.out _ _)
                  go_upto_region 20 with fail
                  rw [show (j0 : Int) + 1 = ((j0 + 1 : Nat) : Int) by omega]
                  clear HS5 HA5 HB5 HO5 q0 q1 f1 r32 r33 g32 g33
                  generalize (w5.setCell ⟨g, 32, none⟩ (.int .i64 0)).setCell ⟨w.heap.size, 1, none⟩ (.int .i64 ((j0 + 1 : Nat) : Int)) = w6 at HS6 HA6 HB6 HO6 ⊢
                  have hz6 := HS6.out.lt
                  go_wp2_with (first
                    | (refine wpList_load_row rfl 26 (.tmp 7) rfl (g) rfl 26 (atC ⟨p0, 0, false⟩).toArray (0, 0) _ HA6.out Tryd.underlying26 rfl (by rw [atom_size, atC_size]) ?_)
                    | (refine wpList_buildOne rfl (.tmp 72) (by rfl) ⟨p0, 0, false⟩ (by rfl) ?_)
                    | (refine wpList_app1 rfl (.tmp 71) (.tmp 73) 28 26 rfl Tryd.underlying28 _ 34 48 atom_info rfl (by decide) (w.heap.size + 1) (.slice A l.length cA) l.length (l.flatMap atC) rfl (own_below HO6.out ((Below.refl _ w6).alloc (Nat.le_refl _) _) (Nat.le_refl _)) ⟨w6.heap.size, 0, none⟩ 1 (atC ⟨p0, 0, false⟩) rfl (atC_len _) (cells_new w6 (atC ⟨p0, 0, false⟩) 26) (atC_one _) (by omega) (by decide) (by simp; omega) ?_; intro g2 cap w9 hown9 hbg9 hbel9 hgrow9))
                  have HS9 := Lib.hid (HS6.out.keep ((hbel9 (w.heap.size + 1) w6 (Nat.le_refl _) ((Below.refl _ w6).alloc (by omega) _)).block _ (Nat.lt_succ_self _)))
                  have HB9 := Lib.hid (hbel9 w.heap.size w (Nat.le_succ _) (HB6.out.alloc (by omega) _))
                  have HO9 : Hid (OwnE 26 atC 34 w9 (w.heap.size + 1) (.slice (some ⟨g2, 0, none⟩) (l.length + 1) cap) (l ++ [⟨p0, 0, false⟩])) := OwnE.snoc hown9
                  have HXE : Hid (s.size - (j0 + 1) < f' ∧ parseL s f' (j0 + 1) (l ++ [⟨p0, 0, false⟩]) = V) := by
                    have h := HX3.out
                    rw [HQ.out] at h
                    exact ⟨by omega, h.2⟩
                  clear hown9 hbel9 hgrow9 HX3 HQ HS6 HA6 HB6 HO6
                  go_roundw
                  case rel => exact ⟨(j0 + 1), l ++ [(At.mk p0 0 false)], HS9.out, by omega, by simp; omega, HO9.out, HB9.out, f', HXE.out⟩
                  case measure => simp; omega
                · have t63 : ((s[j0].toNat : Int) == 63) = false := beq_eq_false_iff_ne.2 (by omega)
                  have h63' : ¬ bt s j0 = 63 := by rw [bt_get s j0 hj0]; exact h63
                  clear h63
                  have HQ : Hid (quantF s j0 = (1, false, j0)) := by
                    show _ = _
                    unfold quantF
                    rw [if_pos hj0, if_neg h42', if_neg h43', if_neg h63']
                  go_upto_region 20 with fail
                  clear q0 q1 f1 r32 r33 g32 g33
                  have hz5 := HS5.out.lt
                  go_wp2_with (first
                    | (refine wpList_load_row rfl 26 (.tmp 7) rfl (g) rfl 26 (atC ⟨p0, 1, false⟩).toArray (0, 0) _ HA5.out Tryd.underlying26 rfl (by rw [atom_size, atC_size]) ?_)
                    | (refine wpList_buildOne rfl (.tmp 72) (by rfl) ⟨p0, 1, false⟩ (by rfl) ?_)
                    | (refine wpList_app1 rfl (.tmp 71) (.tmp 73) 28 26 rfl Tryd.underlying28 _ 34 48 atom_info rfl (by decide) (w.heap.size + 1) (.slice A l.length cA) l.length (l.flatMap atC) rfl (own_below HO5.out ((Below.refl _ w5).alloc (Nat.le_refl _) _) (Nat.le_refl _)) ⟨w5.heap.size, 0, none⟩ 1 (atC ⟨p0, 1, false⟩) rfl (atC_len _) (cells_new w5 (atC ⟨p0, 1, false⟩) 26) (atC_one _) (by omega) (by decide) (by simp; omega) ?_; intro g2 cap w9 hown9 hbg9 hbel9 hgrow9))
                  have HS9 := Lib.hid (HS5.out.keep ((hbel9 (w.heap.size + 1) w5 (Nat.le_refl _) ((Below.refl _ w5).alloc (by omega) _)).block _ (Nat.lt_succ_self _)))
                  have HB9 := Lib.hid (hbel9 w.heap.size w (Nat.le_succ _) (HB5.out.alloc (by omega) _))
                  have HO9 : Hid (OwnE 26 atC 34 w9 (w.heap.size + 1) (.slice (some ⟨g2, 0, none⟩) (l.length + 1) cap) (l ++ [⟨p0, 1, false⟩])) := OwnE.snoc hown9
                  have HXE : Hid (s.size - j0 < f' ∧ parseL s f' j0 (l ++ [⟨p0, 1, false⟩]) = V) := by
                    have h := HX3.out
                    rw [HQ.out] at h
                    exact ⟨by omega, h.2⟩
                  clear hown9 hbel9 hgrow9 HX3 HQ HS5 HA5 HB5 HO5
                  go_roundw
                  case rel => exact ⟨j0, l ++ [(At.mk p0 1 false)], HS9.out, by omega, by simp; omega, HO9.out, HB9.out, f', HXE.out⟩
                  case measure => simp; omega
          · have HQ : Hid (quantF s j0 = (1, false, j0)) := by
              show _ = _
              unfold quantF
              rw [if_neg hj0]
            go_upto_region 20 with (go_at_call 120; refine (more_any _ w.heap.size s j0 false (by exact HS3.out) (by unfold maxLen; omega)).mono ?_; rintro e w' ⟨rfl, nm, rfl⟩)
            have HS5 : Hid (ScIn (w4.drewN nm) w.heap.size s j0 false) := HS3.out
            have HA5 : Hid (AtIn (w4.drewN nm) g ⟨p0, 1, false⟩) := HA3.out
            have HO5 : Hid (OwnE 26 atC 34 (w4.drewN nm) (w.heap.size + 1) (.slice A l.length cA) l) := HO3.out
            have HB5 : Hid (Below w.heap.size w (w4.drewN nm)) := below_drewN HB3.out nm
            clear HS3 HA3 HO3 HB3 q2
            generalize w4.drewN nm = w5 at HS5 HA5 HB5 HO5 ⊢
            have hz5 := HS5.out.lt
            go_wp2_with (first
              | (refine wpList_load_row rfl 26 (.tmp 7) rfl (g) rfl 26 (atC ⟨p0, 1, false⟩).toArray (0, 0) _ HA5.out Tryd.underlying26 rfl (by rw [atom_size, atC_size]) ?_)
              | (refine wpList_buildOne rfl (.tmp 72) (by rfl) ⟨p0, 1, false⟩ (by rfl) ?_)
              | (refine wpList_app1 rfl (.tmp 71) (.tmp 73) 28 26 rfl Tryd.underlying28 _ 34 48 atom_info rfl (by decide) (w.heap.size + 1) (.slice A l.length cA) l.length (l.flatMap atC) rfl (own_below HO5.out ((Below.refl _ w5).alloc (Nat.le_refl _) _) (Nat.le_refl _)) ⟨w5.heap.size, 0, none⟩ 1 (atC ⟨p0, 1, false⟩) rfl (atC_len _) (cells_new w5 (atC ⟨p0, 1, false⟩) 26) (atC_one _) (by omega) (by decide) (by simp; omega) ?_; intro g2 cap w9 hown9 hbg9 hbel9 hgrow9))
            have HS9 := Lib.hid (HS5.out.keep ((hbel9 (w.heap.size + 1) w5 (Nat.le_refl _) ((Below.refl _ w5).alloc (by omega) _)).block _ (Nat.lt_succ_self _)))
            have HB9 := Lib.hid (hbel9 w.heap.size w (Nat.le_succ _) (HB5.out.alloc (by omega) _))
            have HO9 : Hid (OwnE 26 atC 34 w9 (w.heap.size + 1) (.slice (some ⟨g2, 0, none⟩) (l.length + 1) cap) (l ++ [⟨p0, 1, false⟩])) := OwnE.snoc hown9
            have HXE : Hid (s.size - j0 < f' ∧ parseL s f' j0 (l ++ [⟨p0, 1, false⟩]) = V) := by
              have h := HX3.out
              rw [HQ.out] at h
              exact ⟨by omega, h.2⟩
            clear hown9 hbel9 hgrow9 HX3 HQ HS5 HA5 HB5 HO5
            go_roundw
            case rel => exact ⟨j0, l ++ [(At.mk p0 1 false)], HS9.out, by omega, by simp; omega, HO9.out, HB9.out, f', HXE.out⟩
            case measure => simp; omega
    · have HVE : Hid (V = (l, 0, 0)) := by
        have h := HX.out.2
        rw [HF'.out] at h
        unfold parseL at h
        rw [if_neg hlt] at h
        exact h.symm
      go_wp2_with (go_at_call 120; refine (more_any _ w.heap.size s i false (by exact HS.out) (by unfold maxLen; omega)).mono ?_; rintro e w' ⟨rfl, nm, rfl⟩)
      go_ret3
      rw [HVE.out]
      exact ⟨_, rfl, own_base HO.out (Nat.le_succ _), below_drewN HB.out _⟩

end Go.Proofs.YtpboaadjbkaidaaDoor

namespace Go.Proofs.YtpboaadjbkaidaaDoor
set_option maxRecDepth 100000
open Go.RowKit

theorem AtIn.range {w : World} {g : Nat} {x : At} (h : AtIn w g x) : w.rangeAt g 0 (atC x) := fun j v hj => by
  rw [Nat.zero_add, cell_of_row _ _ _ _ _ _ h]
  simpa using hj
theorem bool_info : (Tryd.prog.info? 4).map (fun i => (i.zero, i.size, i.bytes)) = some (some (.bool false), 1, 1) := by kernel_rfl
/-- A slice of n Bools. -/
def PlIn (w : World) (v : Value) (n : Nat) (f : Nat → Bool) : Prop := ∃ b o c, v = .slice (some ⟨b, o, none⟩) n c ∧ b < w.heap.size ∧ ∀ j, j < n → w.cell? ⟨b, o + j, none⟩ = some (.bool (f j))
theorem PlIn.below {w w' : World} {v : Value} {n : Nat} {f : Nat → Bool} (h : PlIn w v n f) {B : Nat} (hb : Below B w w') (hB : w.heap.size ≤ B) : PlIn w' v n f := by
  obtain ⟨b, o, c, hv, hl, hc⟩ := h
  exact ⟨b, o, c, hv, Nat.lt_of_lt_of_le hl hb.size, fun j hj => (hb.cell (p := ⟨b, o + j, none⟩) (Nat.lt_of_lt_of_le hl hB)).trans (hc j hj)⟩
theorem PlIn.congr {w : World} {v : Value} {n : Nat} {f g : Nat → Bool} (h : PlIn w v n f) (e : ∀ j, j < n → f j = g j) : PlIn w v n g := by
  obtain ⟨b, o, c, hv, hl, hc⟩ := h
  exact ⟨b, o, c, hv, hl, fun j hj => by rw [hc j hj, e j hj]⟩
/-- What a call gives that makes a row of n Bools. -/
def RetPl (w : World) (n : Nat) (f : Nat → Bool) (e : Ending) (w' : World) : Prop :=
  ∃ g, e = .returned (.slice (some ⟨g, 0, none⟩) n n) ∧ w.heap.size ≤ g ∧ w'.rowIs g 4 n (fun j => .bool (f j)) ∧ Below w.heap.size w w'
end Go.Proofs.YtpboaadjbkaidaaDoor

namespace Go.Proofs.YtpboaadjbkaidaaDoor
set_option maxRecDepth 100000
open Go.RowKit

def boolC (b : Bool) : List Value := [.bool b]
theorem boolC_len (b : Bool) : (boolC b).length = 1 := rfl
theorem boolC_one (b : Bool) : ∀ u ∈ boolC b, u.oneCell' = true := by
  intro u hu
  simp [boolC] at hu
  subst hu
  rfl
def spF (f : List Tk) : List Bool := (sqF f).map (·.2)
theorem spF_take (f : List Tk) (k : Nat) (h : k < f.length) : spF (f.take (k + 1)) = spF (f.take k) ++ (sqI f[k]).map (·.2) := by
  unfold spF
  rw [List.take_succ_eq_append_getElem h, sqF_app, List.map_append, sqF_one]
theorem spF_len (f : List Tk) : (spF f).length = lenI f := by unfold spF; rw [List.length_map, sqF_len]
theorem sqI_text (t : ByteArray) (d : Int) : (sqI ⟨1, t, d⟩).map (·.2) = t.data.toList.map spcB := by
  unfold sqI
  rw [if_pos rfl, List.map_map]
  rfl
theorem sqI_other (k : Int) (t : ByteArray) (d : Int) (h : k ≠ 1) : (sqI ⟨k, t, d⟩).map (·.2) = [false] := by
  unfold sqI
  rw [if_neg h]
  split <;> rfl
theorem take_map_snoc (s : ByteArray) (i : Nat) (h : i < s.size) : (s.data.toList.map spcB).take (i + 1) = (s.data.toList.map spcB).take i ++ [spcB s[i]] := by
  rw [List.take_succ_eq_append_getElem (by simpa using h)]
  congr 1
  simp only [List.getElem_map]
  rfl

/-- A block of another type is not the row's. -/
theorem own_apart {w : World} {B : Nat} {e : TypeId} {size : Nat} {v : Value} {n : Nat} {xs : List Value} (h : w.ownsRow B e size v n xs) {q : Nat} {cs : Array Value} {t : TypeId} (hq : w.heap[q]? = some (.cells cs t)) (ht : t ≠ e) : ∀ g, v.ownBlock = some g → g ≠ q := by
  rintro g hg rfl
  rcases h.2 with ⟨rfl, _⟩ | ⟨g', cap, cur, rfl, _, hh, _⟩
  · cases hg
  · injection hg with hg
    subst hg
    rw [hq] at hh
    injection hh with hh
    injection hh with _ h2 _
    exact ht h2

set_option maxRecDepth 100000 in
set_option maxHeartbeats 8000000 in
theorem blanks_any (f : List Tk) (v : Value) (w : World) (h1 : RdT w v f) (hl : lenI f ≤ 1000000000) (hfl : f.length ≤ 1000000) :
    Calls Tryd.prog 77 #[v] w (RetOwn 4 boolC 1 w (spF f)) := by
  obtain ⟨R, HRR⟩ : ∃ R, Hid (R = RetOwn 4 boolC 1 w (spF f)) := ⟨_, rfl⟩
  rw [← HRR.out]
  obtain ⟨A, c, rfl, _, _⟩ := h1.shape
  have H1 := Lib.hid h1
  clear h1
  go_enter Tryd.func77, Tryd.ntmps77
  go_wp2_with fail
  obtain ⟨wo, HWO⟩ : ∃ wo, Hid (wo = w) := ⟨w, rfl⟩
  go_loopg [3, 5, 6, 9] f.length (fun gk ov xv iv jv wr => ∃ k : Nat, jv = .int .i64 k ∧ k ≤ f.length ∧ Hid (OwnE 4 boolC 1 wr w.heap.size ov (spF (f.take k))) ∧ Hid (Below w.heap.size w wr) ∧ f.length - k ≤ gk)
  case atStart => exact ⟨0, rfl, Nat.zero_le _, by (show OwnE _ _ _ _ _ _ _); rw [List.take_zero]; exact OwnE.nil, Below.refl _ _, by omega⟩
  case round =>
    clear HWO
    obtain ⟨k, rfl, hk, HO, HB, hgk⟩ := hrel
    by_cases hkl : k < f.length
    · have hki : (k : Int) < (f.length : Int) := by omega
      have hk0 : (0 : Int) ≤ (k : Int) := by omega
      obtain ⟨b, o, rfl, hbl, q1, q2, q3⟩ := RdT.at_ H1.out k hkl
      have hsz := HB.out.size
      rw [← HB.out.cell (p := ⟨b, o + k * 3, none⟩) hbl] at q1
      rw [← HB.out.cell (p := ⟨b, o + k * 3 + 1, none⟩) hbl] at q2
      rw [← HB.out.cell (p := ⟨b, o + k * 3 + 2, none⟩) hbl] at q3
      have hbl2 : b < wr.heap.size := by omega
      have hle := lenI_le f (k + 1)
      have hle2 := lenI_take f k hkl
      have HTK := Lib.hid (spF_take f k hkl)
      have hol := spF_len (f.take k)
      have hol3 := spF_len (f.take (k + 1))
      obtain ⟨Ao, co, hov⟩ := own_shape HO.out
      generalize hl0 : spF (f.take k) = l0 at HO hov HTK hol
      generalize hl1 : spF (f.take (k + 1)) = l1 at HTK hol3
      subst hov
      have hln : l0.length ≤ 1000000000 := by omega
      have hln1 : l1.length ≤ 1000000000 := by omega
      have HL1 := Lib.hid hl1
      clear hl0 hl1 hol hol3
      generalize f[k] = x at q1 q2 q3 HTK hle2
      obtain ⟨xk, xt, xd⟩ := x
      simp only at q1 q2 q3
      have hxs : xk = 1 → xt.size ≤ 1000000000 := fun e => by
        have : wdI ⟨xk, xt, xd⟩ = xt.size := by unfold wdI; rw [if_pos e]
        omega
      have HX : Hid ((wr.alloc (.cells #[.int .i64 xk, .string xt, .int .i64 xd] 84)).heap[wr.heap.size]? = some (.cells #[.int .i64 xk, .string xt, .int .i64 xd] 84)) := heap_alloc_new wr _
      have HB1 := Lib.hid (HB.out.alloc hsz (.cells #[.int .i64 xk, .string xt, .int .i64 xd] 84))
      have HO1 := Lib.hid (World.ownsRow.alloc HO.out (.cells #[.int .i64 xk, .string xt, .int .i64 xd] 84))
      clear hle hle2
      go_upto_region 5 with fail
      generalize wr.alloc (.cells #[.int .i64 xk, .string xt, .int .i64 xd] 84) = w3 at HX HB1 HO1 ⊢
      obtain ⟨q, hq⟩ : ∃ q, Hid (q = wr.heap.size) := ⟨_, rfl⟩
      rw [← hq.out] at HX ⊢
      have hql : q < w3.heap.size := (Array.getElem?_eq_some_iff.1 HX.out).1
      clear q1 q2 q3
      obtain ⟨x0, x1, x2, _⟩ := bx3 HX.out
      have HLT : Hid (∀ g, (Value.slice Ao l0.length co).ownBlock = some g → g < q) := fun g hg => by have := (HO.out.lt g hg).2; rw [hq.out]; exact this
      have hzw := HB1.out.size
      by_cases hx : xk = 1
      · subst hx
        have hxs2 := hxs rfl
        rw [sqI_text] at HTK
        have t1 : ((1 : Int) != 1) = false := rfl
        clear hxs
        go_upto_region 8 with fail
        obtain ⟨wo, HWO⟩ : ∃ wo, Hid (wo = w3) := ⟨w3, rfl⟩
        go_loopg [3, 6] xt.size (fun gk ov iv wx => ∃ i : Nat, iv = .int .i64 i ∧ i ≤ xt.size ∧ Hid (OwnE 4 boolC 1 wx w.heap.size ov (l0 ++ (xt.data.toList.map spcB).take i)) ∧ Hid (Below w.heap.size w wx) ∧ Hid (wx.heap[q]? = some (.cells #[.int .i64 1, .string xt, .int .i64 xd] 84)) ∧ Hid (∀ g, ov.ownBlock = some g → g ≠ q) ∧ xt.size - i ≤ gk)
        case atStart => exact ⟨0, rfl, Nat.zero_le _, by (show OwnE _ _ _ _ _ _ _); rw [List.take_zero, List.append_nil]; exact HO1.out, HB1.out, HX.out, fun g hg => by have := HLT.out g hg; omega, by omega⟩
        case round =>
          clear HWO HO1 HB1 HX HLT hql x0 x1 x2 hzw
          obtain ⟨i, rfl, hi, HOX, HBX, HX, HLT, hgi⟩ := hrel
          obtain ⟨x0, x1, x2, _⟩ := bx3 HX.out
          have hql : q < wr.heap.size := (Array.getElem?_eq_some_iff.1 HX.out).1
          have hzx := HBX.out.size
          by_cases hil : i < xt.size
          · have hii : (i : Int) < (xt.size : Int) := by omega
            have hi0 : (0 : Int) ≤ (i : Int) := by omega
            have HSN := Lib.hid (take_map_snoc xt i hil)
            have h255 : xt[i].toNat < 256 := xt[i].toNat_lt
            have HOF := Lib.hid (fun w' => of_any (xt[i].toNat : Int) w' (by omega) (by omega))
            obtain ⟨bb, hbb⟩ : ∃ bb : Bool, Hid (spcB xt[i] = bb) := ⟨spcB xt[i], rfl⟩
            have t5 : (clsN (xt[i].toNat : Int) == 2) = bb := by rw [← hbb.out]; rfl
            rw [hbb.out] at HSN
            generalize hzz : clsN (xt[i].toNat : Int) = zz at HOF t5
            obtain ⟨Ax, cx, hvx⟩ := own_shape HOX.out
            have hlx : (l0 ++ (xt.data.toList.map spcB).take i).length ≤ 1000000000 := by
              have := congrArg List.length HTK.out
              rw [List.length_append] at this ⊢
              rw [List.length_take]
              simp only [List.length_map] at this ⊢
              omega
            generalize hlq : l0 ++ (xt.data.toList.map spcB).take i = lq at HOX hvx hlx
            subst hvx
            have HLQ := Lib.hid hlq
            clear hlq hzz
            have HSN2 : Hid (lq ++ [bb] = l0 ++ (xt.data.toList.map spcB).take (i + 1)) := by
              show _ = _
              rw [HSN.out, ← HLQ.out, List.append_assoc]
            go_wp2_with (first
              | (go_at_call 98; refine (HOF.out _).mono ?_; rintro e w4 ⟨rfl, rfl⟩)
              | (at_builtin; go_must (refine wpList_app1 rfl (.tmp 26) (.tmp 33) 86 4 rfl Tryd.underlying86 _ 1 1 bool_info rfl (by decide) w.heap.size _ lq.length (lq.flatMap boolC) rfl (by exact World.ownsRow.alloc HOX.out _) ⟨wr.heap.size, 0, none⟩ 1 (boolC bb) rfl rfl (by exact cells_new _ _ _) (boolC_one _) (by omega) (by decide) (by simp; omega) ?_); intro g9 cap9 w9 hown9 hg9 hbel9 hgr9))
            have HO9 := Lib.hid (OwnE.snoc (f := boolC) (l := lq) (x := bb) hown9)
            have HB9 := Lib.hid (hbel9 _ _ (Nat.le_refl _) (HBX.out.alloc hzx (.cells (boolC bb).toArray 4)))
            have HX9 : Hid (w9.heap[q]? = some (.cells #[.int .i64 1, .string xt, .int .i64 xd] 84)) := (hgr9.block q (by simp; omega) (fun e => HLT.out q e.symm rfl)).trans ((Below.heap_alloc wr _ q hql).trans HX.out)
            have HN9 : Hid (∀ g, (Value.slice (some ⟨g9, 0, none⟩) (lq.length + 1) cap9).ownBlock = some g → g ≠ q) := own_apart hown9 HX9.out (by decide)
            rw [HSN2.out] at HO9
            clear hown9 hbel9 hgr9
            go_wp2_with fail
            go_roundg (xt.size - (i + 1))
            case measure => omega
            case rel => exact ⟨i + 1, rfl, by omega, HO9.out, HB9.out, HX9.out, HN9.out, by omega⟩
          · obtain rfl : i = xt.size := by omega
            rw [List.take_of_length_le (by simp), ← HTK.out] at HOX
            go_wp2_with fail
            go_roundg (f.length - (k + 1))
            case measure => omega
            case rel => exact ⟨k + 1, rfl, by omega, by (show OwnE _ _ _ _ _ _ _); rw [HL1.out]; exact HOX.out, HBX.out, by omega⟩
      · have t1 : (xk != 1) = true := by simpa using hx
        rw [sqI_other _ _ _ hx] at HTK
        clear hxs
        go_wp2_with (at_builtin; refine wpList_app1 rfl (.tmp 16) (.tmp 17) 86 4 rfl Tryd.underlying86 _ 1 1 bool_info rfl (by decide) w.heap.size _ _ _ rfl (by exact World.ownsRow.alloc HO1.out _) ⟨w3.heap.size, 0, none⟩ 1 (boolC false) rfl rfl (by exact cells_new _ _ _) (boolC_one _) (by omega) (by decide) (by simp; omega) ?_; intro g9 cap9 w9 hown9 hg9 hbel9 hgr9)
        have HO9 := Lib.hid (OwnE.snoc (f := boolC) (l := l0) (x := false) hown9)
        have HB9 := Lib.hid (hbel9 _ _ (Nat.le_refl _) (HB1.out.alloc hzw (.cells (boolC false).toArray 4)))
        rw [← HTK.out] at HO9
        clear hown9 hbel9 hgr9
        go_roundg (f.length - (k + 1))
        case measure => omega
        case rel => exact ⟨k + 1, rfl, by omega, by (show OwnE _ _ _ _ _ _ _); rw [HL1.out]; exact HO9.out, HB9.out, by omega⟩
    · obtain rfl : k = f.length := by omega
      rw [List.take_length] at HO
      obtain ⟨Ao, co, hov⟩ := own_shape HO.out
      go_wp2_with fail
      rw [HRR.out]
      exact ⟨_, rfl, HO.out, HB.out⟩

end Go.Proofs.YtpboaadjbkaidaaDoor

namespace Go.Proofs.YtpboaadjbkaidaaDoor
set_option maxRecDepth 100000
open Go.RowKit

/-- The last k bytes of a string, backwards. -/
def rvS (s : ByteArray) (k : Nat) : ByteArray := ⟨((s.data.toList.drop (s.size - k)).reverse).toArray⟩
theorem rv_size (s : ByteArray) : (rvS s s.size).size = s.size := by
  show ((s.data.toList.drop (s.size - s.size)).reverse).length = _
  rw [Nat.sub_self, List.drop_zero, List.length_reverse, ← Lib.size_eq]
theorem rv_bt (s : ByteArray) (k : Nat) (hk : k < s.size) : bt (rvS s s.size) k = bt s (s.size - 1 - k) := by
  have hl : s.data.toList.length = s.size := (Lib.size_eq s).symm
  unfold bt rvS
  simp only
  rw [Nat.sub_self, List.drop_zero, List.getD_eq_getElem?_getD, List.getD_eq_getElem?_getD, List.getElem?_reverse (by omega), hl]
end Go.Proofs.YtpboaadjbkaidaaDoor

namespace Go.Proofs.YtpboaadjbkaidaaDoor
set_option maxRecDepth 100000
open Go.RowKit

theorem u8_info6 : (Tryd.prog.info? 5).map (fun i => (i.zero, i.size, i.bytes)) = some (some (.int .u8 0), 1, 1) := by kernel_rfl
theorem run_rev (s : ByteArray) (src dst : TypeId) {e : TypeId} (hs : Tryd.prog.underlying src = some (.slice e)) (he : Tryd.prog.underlying e = some (.int .u8)) (hd : Tryd.prog.underlying dst = some .string) (w : World) (g : Nat)
    (h : w.rowIs g e s.size (fun j => .int .u8 (bt s (s.size - 1 - j) : Int))) : (convert src dst (.slice (some ⟨g, 0, none⟩) s.size s.size)).run Tryd.prog w = .ok (.string (rvS s s.size)) w := by
  have hl : s.data.toList.length = s.size := (Lib.size_eq s).symm
  have := run_convert_bytes_back (P := Tryd.prog) w src dst e ⟨g, 0, none⟩ s.size s.data.toList.reverse hs he hd (fun j hj => by
    have hj2 : j < s.size := by simpa [hl] using hj
    rw [Addr.add_lit, Nat.zero_add, h.cell hj2]
    congr 2
    rw [List.getElem_reverse]
    unfold bt
    rw [List.getD_eq_getElem?_getD, List.getElem?_eq_getElem (by omega)]
    simp [hl])
  rw [List.length_reverse, hl] at this
  rw [this]
  congr 2
  unfold rvS
  rw [Nat.sub_self, List.drop_zero]

set_option maxRecDepth 100000 in
set_option maxHeartbeats 8000000 in
theorem reversed_any (s : ByteArray) (w : World) (hs : s.size ≤ 1048576) : Calls Tryd.prog 49 #[.string s] w fun e w' => e = .returned (.string (rvS s s.size)) ∧ Below w.heap.size w w' := by
  have hmk := fun w => run_make_row' (P := Tryd.prog) 23 5 (.int .u8 0) 1 Tryd.underlying23 u8_info6 rfl .i64 .i64 s.size (by omega) (by omega) w
  have HCV := Lib.hid (run_rev s 23 9 Tryd.underlying23 Tryd.underlying5 Tryd.underlying9)
  go_enter Tryd.func49, Tryd.ntmps49
  have HR0 : Hid ((w.alloc (.cells (madeCells #[.int .u8 0] s.size) 5)).rowIs w.heap.size 5 s.size (fun j => .int .u8 (if j < 0 then (bt s (s.size - 1 - j) : Int) else 0))) := (World.rowIs_made w (.int .u8 0) s.size 5).congr fun j _ => by rw [if_neg (Nat.not_lt_zero j)]
  have HB0 := Lib.hid ((Below.refl w.heap.size w).alloc (Nat.le_refl _) (.cells (madeCells #[.int .u8 0] s.size) 5))
  go_upto_region 2 with fail
  generalize hg : w.heap.size = g at HR0 ⊢
  generalize w.alloc (.cells (madeCells #[.int .u8 0] s.size) 5) = w1 at HR0 HB0 ⊢
  go_wp2_with fail
  go_loopg [10] s.size (fun gk kv wr => ∃ k : Nat, k ≤ s.size ∧ kv = .int .i64 k ∧ Hid (wr.rowIs g 5 s.size (fun j => .int .u8 (if j < k then (bt s (s.size - 1 - j) : Int) else 0))) ∧ Hid (Below w.heap.size w wr) ∧ s.size - k ≤ gk)
  case atStart => exact ⟨0, by omega, rfl, HR0.out, HB0.out, by omega⟩
  case round =>
    clear HR0 HB0
    obtain ⟨k, hk, rfl, HR, HB, hgk⟩ := hrel
    by_cases hkl : k < s.size
    · have hki : (k : Int) < (s.size : Int) := by omega
      obtain ⟨j, hj⟩ : ∃ j, j + k + 1 = s.size := ⟨s.size - 1 - k, by omega⟩
      have r0 := HR.out.cell (i := k) hkl
      have rf := HR.out.frozen k
      rw [if_neg (Nat.lt_irrefl k)] at r0
      have hjs : (j : Int) < (s.size : Int) := by omega
      have hjl : j < s.size := by omega
      have hj0 : (0 : Int) ≤ (j : Int) := by omega
      have HR1 : Hid ((wr.setCell ⟨g, k, none⟩ (.int .u8 (s[j].toNat : Int))).rowIs g 5 s.size (fun j => .int .u8 (if j < k + 1 then (bt s (s.size - 1 - j) : Int) else 0))) := (HR.out.set k (.int .u8 (s[j].toNat : Int))).congr fun i hi => by
        by_cases h : i = k
        · rw [if_pos h, if_pos (by omega), h, show s.size - 1 - k = j by omega, bt_get s j hjl]
        · rw [if_neg h]
          by_cases h2 : i < k
          · rw [if_pos h2, if_pos (by omega)]
          · rw [if_neg h2, if_neg (by omega)]
      obtain ⟨z, hz⟩ : ∃ z : Int, z = (s.size : Int) - 1 - (k : Int) := ⟨_, rfl⟩
      have hzj : z = (j : Int) := by omega
      subst hzj
      have hz2 : (s.size : Int) - 1 - (k : Int) = (j : Int) := hz.symm
      clear hz
      go_wp2_with fail
      go_roundg (s.size - (k + 1))
      case measure => omega
      case rel => exact ⟨k + 1, by omega, by go_num, HR1.out, HB.out.setCell (p := ⟨g, k, none⟩) (show w.heap.size ≤ g by omega) _, Nat.le_refl _⟩
    · obtain rfl : k = s.size := by omega
      have hki : ¬ (s.size : Int) < (s.size : Int) := by omega
      have hcv := HCV.out wr g (HR.out.congr fun j hj => by rw [if_pos hj])
      go_wp2_with fail
      go_ret
      exact ⟨rfl, hg ▸ HB.out⟩

end Go.Proofs.YtpboaadjbkaidaaDoor

namespace Go.Proofs.YtpboaadjbkaidaaDoor
set_option maxRecDepth 100000
open Go.RowKit

theorem at_range {w : World} {q : Nat} {x : At} (h : AtIn w q x) : w.drew.rangeAt q 0 (atC x) := fun j v hj => by
  rw [Nat.zero_add]
  show w.cell? _ = _
  rw [cell_of_row _ _ _ _ _ _ h]
  simpa using hj

set_option maxRecDepth 100000 in
set_option maxHeartbeats 8000000 in
theorem ends_any (l : List At) (s : ByteArray) (lv : Value) (w : World) (hp : RdE atC 34 w lv l) (hs : s.size ≤ 1048576) (hl : l.length ≤ 140737488355328) :
    Calls Tryd.prog 50 #[lv, .string s] w (RetPl w (s.size + 1) (reachF s l allF)) := by
  obtain ⟨A, c, rfl, hlc, _⟩ := hp.shape
  have HP := Lib.hid hp
  clear hp
  have hu := Tryd.underlying26
  have hi : (Tryd.prog.info? 26).map (·.size) = some 34 := atom_size
  have hmk := fun w => run_make_row' (P := Tryd.prog) 86 4 (.bool false) 1 Tryd.underlying86 bool_info rfl .i64 .i64 (s.size + 1) (by omega) (by omega) w
  rw [show ((s.size + 1 : Nat) : Int) = (s.size : Int) + 1 by omega] at hmk
  obtain ⟨R, HRR⟩ : ∃ R, Hid (R = reachF s l allF) := ⟨_, rfl⟩
  rw [← HRR.out]
  go_enter Tryd.func50, Tryd.ntmps50
  have HR0 : Hid ((w.alloc (.cells (madeCells #[.bool false] (s.size + 1)) 4)).rowIs w.heap.size 4 (s.size + 1) (fun j => .bool (decide (j < 0)))) := (World.rowIs_made w (.bool false) (s.size + 1) 4).congr fun j _ => by rw [decide_eq_false (by omega)]
  have HB0 := Lib.hid ((Below.refl w.heap.size w).alloc (Nat.le_refl _) (.cells (madeCells #[.bool false] (s.size + 1)) 4))
  go_upto_region 2 with fail
  generalize w.alloc (.cells (madeCells #[.bool false] (s.size + 1)) 4) = w1 at HR0 HB0 ⊢
  go_wp2_with fail
  go_loopg [17] (s.size + 1) (fun gk kv wr => ∃ k : Nat, k ≤ s.size + 1 ∧ kv = .int .i64 k ∧ Hid (wr.rowIs w.heap.size 4 (s.size + 1) (fun j => .bool (decide (j < k)))) ∧ Hid (Below w.heap.size w wr) ∧ s.size + 1 - k ≤ gk)
  case atStart => exact ⟨0, by omega, rfl, HR0.out, HB0.out, by omega⟩
  case round =>
    clear HR0 HB0
    obtain ⟨k, hk, rfl, HR, HB, hgk⟩ := hrel
    by_cases hkl : k < s.size + 1
    · have hki : (k : Int) < (s.size : Int) + 1 := by omega
      have r0 := HR.out.cell (i := k) hkl
      have rf := HR.out.frozen k
      have HR1 : Hid ((wr.setCell ⟨w.heap.size, k, none⟩ (.bool true)).rowIs w.heap.size 4 (s.size + 1) (fun j => .bool (decide (j < k + 1)))) := (HR.out.set k (.bool true)).congr fun j _ => by
        by_cases h : j = k
        · rw [if_pos h, decide_eq_true (by omega)]
        · rw [if_neg h]
          congr 1
          rw [decide_eq_decide]
          omega
      go_wp2_with fail
      go_roundg (s.size + 1 - (k + 1))
      case measure => omega
      case rel => exact ⟨k + 1, by omega, by go_num, HR1.out, HB.out.setCell (p := ⟨w.heap.size, k, none⟩) (Nat.le_refl _) _, Nat.le_refl _⟩
    obtain rfl : k = s.size + 1 := by omega
    have hki : ¬ (((s.size + 1 : Nat)) : Int) < (s.size : Int) + 1 := by omega
    have HRA : Hid (wr.rowIs w.heap.size 4 (s.size + 1) (fun j => .bool (allF j))) := HR.out.congr fun j hj => by rw [decide_eq_true hj]; rfl
    clear HR
    go_wp2_with fail
    obtain ⟨wo, HWO⟩ : ∃ wo, Hid (wo = wr) := ⟨wr, rfl⟩
    go_loopg [5, 26] l.length (fun gk pv kv wr => ∃ (k b : Nat) (g : Nat → Bool), pv = .slice (some ⟨b, 0, none⟩) (s.size + 1) (s.size + 1) ∧ kv = .int .i64 k ∧ k ≤ l.length ∧ w.heap.size ≤ b ∧ Hid (wr.rowIs b 4 (s.size + 1) (fun j => .bool (g j))) ∧ Hid (reachF s (l.drop k) g = R) ∧ Hid (Below w.heap.size w wr) ∧ l.length - k ≤ gk)
    case atStart => exact ⟨0, w.heap.size, allF, rfl, rfl, by omega, by omega, HRA.out, by (show _ = _); rw [HRR.out]; rfl, HB.out, by omega⟩
    case round =>
      clear HRA HB HWO
      obtain ⟨k, b, g, rfl, rfl, hk2, hbw, HG, HX, HB, hgk2⟩ := hrel
      by_cases hkl : k < l.length
      · have hki2 : (k : Int) < (l.length : Int) := by omega
        have hk0 : (0 : Int) ≤ (k : Int) := by omega
        obtain ⟨bp, o, rfl, hbl, hcell⟩ := HP.out.cells (by omega)
        have hx : l[k]? = some l[k] := List.getElem?_eq_getElem hkl
        have HX2 : Hid (reachF s (l.drop (k + 1)) (advF l[k] s g) = R) := by
          have h := HX.out
          rw [List.drop_eq_getElem_cons hkl] at h
          exact h
        have hrg : wr.rangeAt bp (o + k * 34) (atC l[k]) := fun j v hj => by
          rw [Nat.add_assoc]
          exact (HB.out.cell (p := ⟨bp, o + (k * 34 + j), none⟩) hbl).trans (hcell k _ j v hx hj)
        clear HX hx hcell
        generalize l[k] = x at HX2 hrg
        have hz := HB.out.size
        have HA1 := Lib.hid ((at_zero wr).row x)
        have HB1 : Hid (Below w.heap.size w ((wr.alloc (.cells #[.int .u8 0, .int .u8 0, .int .u8 0, .int .u8 0, .int .u8 0, .int .u8 0, .int .u8 0, .int .u8 0, .int .u8 0, .int .u8 0, .int .u8 0, .int .u8 0, .int .u8 0, .int .u8 0, .int .u8 0, .int .u8 0, .int .u8 0, .int .u8 0, .int .u8 0, .int .u8 0, .int .u8 0, .int .u8 0, .int .u8 0, .int .u8 0, .int .u8 0, .int .u8 0, .int .u8 0, .int .u8 0, .int .u8 0, .int .u8 0, .int .u8 0, .int .u8 0, .int .i64 0, .bool false] 26)).setRow wr.heap.size (atC x).toArray)) := below_setRow (HB.out.alloc hz _) hz _
        have HK1 : Hid (Below wr.heap.size wr ((wr.alloc (.cells #[.int .u8 0, .int .u8 0, .int .u8 0, .int .u8 0, .int .u8 0, .int .u8 0, .int .u8 0, .int .u8 0, .int .u8 0, .int .u8 0, .int .u8 0, .int .u8 0, .int .u8 0, .int .u8 0, .int .u8 0, .int .u8 0, .int .u8 0, .int .u8 0, .int .u8 0, .int .u8 0, .int .u8 0, .int .u8 0, .int .u8 0, .int .u8 0, .int .u8 0, .int .u8 0, .int .u8 0, .int .u8 0, .int .u8 0, .int .u8 0, .int .u8 0, .int .u8 0, .int .i64 0, .bool false] 26)).setRow wr.heap.size (atC x).toArray)) := below_setRow ((Below.refl _ wr).alloc (Nat.le_refl _) _) (Nat.le_refl _) _
        go_upto_region 10 with (first
          | (refine wpList_load_mid rfl 26 (.tmp 28) rfl bp (o + k * 34) rfl (atC x) _ hrg hu rfl (by rw [hi, atC_len]) ?_)
          | (refine wpList_store_row rfl 26 (.tmp 8) (.tmp 29) rfl (wr.heap.size) (atC x).toArray rfl rfl 26 (atC ⟨noP, 0, false⟩).toArray (at_zero wr) (by rw [atom_size, atC_size]) (by simp only [atC_size]) (atC_oneA _) ?_))
        have HG1 := Lib.hid (HG.out.of_block (w' := (wr.alloc (.cells #[.int .u8 0, .int .u8 0, .int .u8 0, .int .u8 0, .int .u8 0, .int .u8 0, .int .u8 0, .int .u8 0, .int .u8 0, .int .u8 0, .int .u8 0, .int .u8 0, .int .u8 0, .int .u8 0, .int .u8 0, .int .u8 0, .int .u8 0, .int .u8 0, .int .u8 0, .int .u8 0, .int .u8 0, .int .u8 0, .int .u8 0, .int .u8 0, .int .u8 0, .int .u8 0, .int .u8 0, .int .u8 0, .int .u8 0, .int .u8 0, .int .u8 0, .int .u8 0, .int .i64 0, .bool false] 26)).setRow wr.heap.size (atC x).toArray) (HK1.out.block _ HG.out.lt))
        have hbq : b < wr.heap.size := HG.out.lt
        have hz1 := HK1.out.size
        have hqz : wr.heap.size < ((wr.alloc (.cells #[.int .u8 0, .int .u8 0, .int .u8 0, .int .u8 0, .int .u8 0, .int .u8 0, .int .u8 0, .int .u8 0, .int .u8 0, .int .u8 0, .int .u8 0, .int .u8 0, .int .u8 0, .int .u8 0, .int .u8 0, .int .u8 0, .int .u8 0, .int .u8 0, .int .u8 0, .int .u8 0, .int .u8 0, .int .u8 0, .int .u8 0, .int .u8 0, .int .u8 0, .int .u8 0, .int .u8 0, .int .u8 0, .int .u8 0, .int .u8 0, .int .u8 0, .int .u8 0, .int .i64 0, .bool false] 26)).setRow wr.heap.size (atC x).toArray).heap.size := (Array.getElem?_eq_some_iff.1 HA1.out).1
        clear HB hrg HG HK1
        generalize wr.heap.size = q at HA1 HB1 HG1 hz hbq hz1 hqz ⊢
        generalize (wr.alloc (.cells #[.int .u8 0, .int .u8 0, .int .u8 0, .int .u8 0, .int .u8 0, .int .u8 0, .int .u8 0, .int .u8 0, .int .u8 0, .int .u8 0, .int .u8 0, .int .u8 0, .int .u8 0, .int .u8 0, .int .u8 0, .int .u8 0, .int .u8 0, .int .u8 0, .int .u8 0, .int .u8 0, .int .u8 0, .int .u8 0, .int .u8 0, .int .u8 0, .int .u8 0, .int .u8 0, .int .u8 0, .int .u8 0, .int .u8 0, .int .u8 0, .int .u8 0, .int .u8 0, .int .i64 0, .bool false] 26)).setRow q (atC x).toArray = w2 at HA1 HB1 HG1 hz1 hqz ⊢
        have HR1 : Hid ((w2.alloc (.cells (madeCells #[.bool false] (s.size + 1)) 4)).rowIs w2.heap.size 4 (s.size + 1) (fun j => .bool (if j < 0 then advF x s g j else false))) := (World.rowIs_made w2 (.bool false) (s.size + 1) 4).congr fun j _ => by rw [if_neg (Nat.not_lt_zero j)]
        have HB2 := Lib.hid (HB1.out.alloc (by omega) (.cells (madeCells #[.bool false] (s.size + 1)) 4))
        have HA2 : Hid (AtIn (w2.alloc (.cells (madeCells #[.bool false] (s.size + 1)) 4)) q x) := HA1.out.keep (Below.heap_alloc w2 _ q hqz)
        have HG2 := Lib.hid (HG1.out.of_block (w' := w2.alloc (.cells (madeCells #[.bool false] (s.size + 1)) 4)) (Below.heap_alloc w2 _ b (by omega)))
        go_upto_region 11 with fail
        clear HB1 HA1 HG1 hz1
        generalize w2.heap.size = N at HR1 hqz ⊢
        generalize w2.alloc (.cells (madeCells #[.bool false] (s.size + 1)) 4) = w3 at HR1 HB2 HA2 HG2 ⊢
        go_wp2_with fail
        obtain ⟨wo2, HWO2⟩ : ∃ wo, Hid (wo = w3) := ⟨w3, rfl⟩
        go_loopg [36] (s.size + 1) (fun gk kv wr => ∃ i : Nat, i ≤ s.size + 1 ∧ kv = .int .i64 i ∧ Hid (wr.rowIs N 4 (s.size + 1) (fun j => .bool (if j < i then advF x s g j else false))) ∧ Hid (wr.rowIs b 4 (s.size + 1) (fun j => .bool (g j))) ∧ Hid (AtIn wr q x) ∧ Hid (Below w.heap.size w wr) ∧ s.size + 1 - i ≤ gk)
        case atStart => exact ⟨0, by omega, rfl, HR1.out, HG2.out, HA2.out, HB2.out, by omega⟩
        case round =>
          clear HR1 HG2 HA2 HB2
          obtain ⟨i, hil0, rfl, HR, HG, HA, HB, hgk3⟩ := hrel
          by_cases hil : i < s.size + 1
          · have hii : (i : Int) < (s.size : Int) + 1 := by omega
            have hi0 : (0 : Int) ≤ (i : Int) := by omega
            have qm := HA.out.mn
            have qg := HG.out.cell (i := i) hil
            have r0 := HR.out.cell (i := i) hil
            rw [if_neg (Nat.lt_irrefl i)] at r0
            have rf := HR.out.frozen i
            have hbN : b < N := by omega
            obtain ⟨gi, hgi⟩ : ∃ gi, g i = gi := ⟨_, rfl⟩
            rw [hgi] at qg
            by_cases hm : x.mn < 1
            · have HBI : Hid ((decide (x.mn < 1) && g i) = gi) := by show _ = _; rw [decide_eq_true hm, hgi]; rfl
              have HR1 : Hid ((wr.setCell ⟨N, i, none⟩ (.bool gi)).rowIs N 4 (s.size + 1) (fun j => .bool (if j = i then gi else if j < i then advF x s g j else false))) := (HR.out.set i (.bool gi)).congr fun j hj => by
                by_cases h : j = i
                · rw [if_pos h, if_pos h]
                · rw [if_neg h, if_neg h]
              have HG1 := Lib.hid (HG.out.of_block (w' := (wr.setCell ⟨N, i, none⟩ (.bool gi))) (Below.heap_setCell _ _ _ _ (show b ≠ N by omega)))
              have HA1 : Hid (AtIn (wr.setCell ⟨N, i, none⟩ (.bool gi)) q x) := HA.out.keep (Below.heap_setCell _ _ _ _ (show q ≠ N by omega))
              have HB1 : Hid (Below w.heap.size w (wr.setCell ⟨N, i, none⟩ (.bool gi))) := HB.out.setCell (p := ⟨N, i, none⟩) (show w.heap.size ≤ N by omega) _
              have hN4 : N < (wr.setCell ⟨N, i, none⟩ (.bool gi)).heap.size := HR1.out.lt
              go_upto_region 15 with fail
              clear HR HG HA HB qm qg r0 rf hgi
              generalize (wr.setCell ⟨N, i, none⟩ (.bool gi)) = w4 at HR1 HG1 HA1 HB1 hN4 ⊢
              rcases i with _ | m
              · have HVE : Hid (advF x s g 0 = gi) := by show _ = _; rw [adv_zero, HBI.out]
                refine wp_region_at 28 #[false, false, false, false, false, false, false, false, false, false, false, false, false, false, false, false, false, false, false, false, false, false, false, false, false, false, false, false] rfl rfl (by kernel_rfl) ?_
                refine wpAny_at (i := 0) (v := .int .i64 0) (some 51) rfl rfl (by kernel_rfl) (by kernel_rfl) (by kernel_rfl) (fun _ _ _ h => h) (by kernel_rfl) (fun _ => ex_move _ _ rfl (by kernel_rfl)) ?_
                simp only [Act.put, List.setIfInBounds_toArray, List.set_cons_zero, List.set_cons_succ]
                refine wpAny_at (i := 1) (v := .bool false) (some 52) rfl rfl (by kernel_rfl) (by kernel_rfl) (by kernel_rfl) (fun _ _ _ h => h) (by kernel_rfl) (fun _ => ex_binOp .gtr 3 _ _ _ (.int .i64 0) (.int .i64 0) _ rfl (by kernel_rfl) (by kernel_rfl) (by go_simp)) ?_
                simp only [Act.put, List.setIfInBounds_toArray, List.set_cons_zero, List.set_cons_succ]
                refine wpAny_at (i := 2) (v := .bool false) (some 53) rfl rfl (by kernel_rfl) (by kernel_rfl) (by kernel_rfl) (fun _ _ _ h => h) (by kernel_rfl) (fun _ => ex_move _ _ rfl (by kernel_rfl)) ?_
                simp only [Act.put, List.setIfInBounds_toArray, List.set_cons_zero, List.set_cons_succ]
                refine wpAny_skip 3 (some 54) rfl rfl (by kernel_rfl) (by kernel_rfl) (by kernel_rfl) (fun _ _ _ h => h) (by kernel_rfl) ?_
                simp only [Act.put, List.setIfInBounds_toArray, List.set_cons_zero, List.set_cons_succ]
                refine wpAny_skip 4 (some 55) rfl rfl (by kernel_rfl) (by kernel_rfl) (by kernel_rfl) (fun _ _ _ h => h) (by kernel_rfl) ?_
                simp only [Act.put, List.setIfInBounds_toArray, List.set_cons_zero, List.set_cons_succ]
                refine wpAny_skip 5 (some 56) rfl rfl (by kernel_rfl) (by kernel_rfl) (by kernel_rfl) (fun _ _ _ h => h) (by kernel_rfl) ?_
                simp only [Act.put, List.setIfInBounds_toArray, List.set_cons_zero, List.set_cons_succ]
                refine wpAny_skip 6 (some 57) rfl rfl (by kernel_rfl) (by kernel_rfl) (by kernel_rfl) (fun _ _ _ h => h) (by kernel_rfl) ?_
                simp only [Act.put, List.setIfInBounds_toArray, List.set_cons_zero, List.set_cons_succ]
                refine wpAny_skip 7 (some 58) rfl rfl (by kernel_rfl) (by kernel_rfl) (by kernel_rfl) (fun _ _ _ h => h) (by kernel_rfl) ?_
                simp only [Act.put, List.setIfInBounds_toArray, List.set_cons_zero, List.set_cons_succ]
                refine wpAny_skip 8 (some 59) rfl rfl (by kernel_rfl) (by kernel_rfl) (by kernel_rfl) (fun _ _ _ h => h) (by kernel_rfl) ?_
                simp only [Act.put, List.setIfInBounds_toArray, List.set_cons_zero, List.set_cons_succ]
                refine wpAny_at (i := 9) (v := .bool false) (some 60) rfl rfl (by kernel_rfl) (by kernel_rfl) (by kernel_rfl) (fun _ _ _ h => h) (by kernel_rfl) (fun _ => ex_pick _ _ _ false (undef) (.bool false) rfl (by kernel_rfl) (by kernel_rfl) (by kernel_rfl)) ?_
                simp only [Act.put, List.setIfInBounds_toArray, List.set_cons_zero, List.set_cons_succ]
                refine wpAny_at (i := 10) (v := .bool false) (some 61) rfl rfl (by kernel_rfl) (by kernel_rfl) (by kernel_rfl) (fun _ _ _ h => h) (by kernel_rfl) (fun _ => ex_move _ _ rfl (by kernel_rfl)) ?_
                simp only [Act.put, List.setIfInBounds_toArray, List.set_cons_zero, List.set_cons_succ]
                refine wpAny_skip 11 (some 62) rfl rfl (by kernel_rfl) (by kernel_rfl) (by kernel_rfl) (fun _ _ _ h => h) (by kernel_rfl) ?_
                simp only [Act.put, List.setIfInBounds_toArray, List.set_cons_zero, List.set_cons_succ]
                refine wpAny_skip 12 (some 63) rfl rfl (by kernel_rfl) (by kernel_rfl) (by kernel_rfl) (fun _ _ _ h => h) (by kernel_rfl) ?_
                simp only [Act.put, List.setIfInBounds_toArray, List.set_cons_zero, List.set_cons_succ]
                refine wpAny_skip 13 (some 64) rfl rfl (by kernel_rfl) (by kernel_rfl) (by kernel_rfl) (fun _ _ _ h => h) (by kernel_rfl) ?_
                simp only [Act.put, List.setIfInBounds_toArray, List.set_cons_zero, List.set_cons_succ]
                refine wpAny_skip 14 (some 65) rfl rfl (by kernel_rfl) (by kernel_rfl) (by kernel_rfl) (fun _ _ _ h => h) (by kernel_rfl) ?_
                simp only [Act.put, List.setIfInBounds_toArray, List.set_cons_zero, List.set_cons_succ]
                refine wpAny_skip 15 (some 66) rfl rfl (by kernel_rfl) (by kernel_rfl) (by kernel_rfl) (fun _ _ _ h => h) (by kernel_rfl) ?_
                simp only [Act.put, List.setIfInBounds_toArray, List.set_cons_zero, List.set_cons_succ]
                refine wpAny_skip 16 (some 67) rfl rfl (by kernel_rfl) (by kernel_rfl) (by kernel_rfl) (fun _ _ _ h => h) (by kernel_rfl) ?_
                simp only [Act.put, List.setIfInBounds_toArray, List.set_cons_zero, List.set_cons_succ]
                refine wpAny_skip 17 (some 68) rfl rfl (by kernel_rfl) (by kernel_rfl) (by kernel_rfl) (fun _ _ _ h => h) (by kernel_rfl) ?_
                simp only [Act.put, List.setIfInBounds_toArray, List.set_cons_zero, List.set_cons_succ]
                refine wpAny_skip 18 (some 69) rfl rfl (by kernel_rfl) (by kernel_rfl) (by kernel_rfl) (fun _ _ _ h => h) (by kernel_rfl) ?_
                simp only [Act.put, List.setIfInBounds_toArray, List.set_cons_zero, List.set_cons_succ]
                refine wpAny_skip 19 (some 70) rfl rfl (by kernel_rfl) (by kernel_rfl) (by kernel_rfl) (fun _ _ _ h => h) (by kernel_rfl) ?_
                simp only [Act.put, List.setIfInBounds_toArray, List.set_cons_zero, List.set_cons_succ]
                refine wpAny_skip 20 (some 71) rfl rfl (by kernel_rfl) (by kernel_rfl) (by kernel_rfl) (fun _ _ _ h => h) (by kernel_rfl) ?_
                simp only [Act.put, List.setIfInBounds_toArray, List.set_cons_zero, List.set_cons_succ]
                refine wpAny_skip 21 (some 72) rfl rfl (by kernel_rfl) (by kernel_rfl) (by kernel_rfl) (fun _ _ _ h => h) (by kernel_rfl) ?_
                simp only [Act.put, List.setIfInBounds_toArray, List.set_cons_zero, List.set_cons_succ]
                refine wpAny_skip 22 (some 73) rfl rfl (by kernel_rfl) (by kernel_rfl) (by kernel_rfl) (fun _ _ _ h => h) (by kernel_rfl) ?_
                simp only [Act.put, List.setIfInBounds_toArray, List.set_cons_zero, List.set_cons_succ]
                refine wpAny_skip 23 (some 74) rfl rfl (by kernel_rfl) (by kernel_rfl) (by kernel_rfl) (fun _ _ _ h => h) (by kernel_rfl) ?_
                simp only [Act.put, List.setIfInBounds_toArray, List.set_cons_zero, List.set_cons_succ]
                refine wpAny_skip 24 (some 75) rfl rfl (by kernel_rfl) (by kernel_rfl) (by kernel_rfl) (fun _ _ _ h => h) (by kernel_rfl) ?_
                simp only [Act.put, List.setIfInBounds_toArray, List.set_cons_zero, List.set_cons_succ]
                refine wpAny_skip 25 (some 76) rfl rfl (by kernel_rfl) (by kernel_rfl) (by kernel_rfl) (fun _ _ _ h => h) (by kernel_rfl) ?_
                simp only [Act.put, List.setIfInBounds_toArray, List.set_cons_zero, List.set_cons_succ]
                refine wpAny_skip 26 (some 77) rfl rfl (by kernel_rfl) (by kernel_rfl) (by kernel_rfl) (fun _ _ _ h => h) (by kernel_rfl) ?_
                simp only [Act.put, List.setIfInBounds_toArray, List.set_cons_zero, List.set_cons_succ]
                refine wpAny_at (i := 27) (v := .bool false) (some 78) rfl rfl (by kernel_rfl) (by kernel_rfl) (by kernel_rfl) (fun _ _ _ h => h) (by kernel_rfl) (fun _ => ex_pick _ _ _ false (undef) (.bool false) rfl (by kernel_rfl) (by kernel_rfl) (by kernel_rfl)) ?_
                simp only [Act.put, List.setIfInBounds_toArray, List.set_cons_zero, List.set_cons_succ]
                refine wpAny_done (by kernel_rfl) ?_ _
                have HRE : Hid (w4.drew.rowIs N 4 (s.size + 1) (fun j => .bool (if j < 0 + 1 then advF x s g j else false))) := HR1.out.congr fun j hj => by
                  by_cases h : j = 0
                  · rw [if_pos h, if_pos (by omega), h, HVE.out]
                  · rw [if_neg h, if_neg (by omega), if_neg (by omega)]
                go_wp2_with fail
                go_roundg (s.size + 1 - (0 + 1))
                case measure => omega
                case rel => exact ⟨0 + 1, by omega, by go_num, HRE.out, HG1.out.drew, HA1.out, HB1.out.drew, Nat.le_refl _⟩
              · have hms : m < s.size := by omega
                have hmsi : (m : Int) < (s.size : Int) := by omega
                have hm0 : (0 : Int) ≤ (m : Int) := by omega
                have hc1 : ((m + 1 : Nat) : Int) = (m : Int) + 1 := by omega
                rw [hc1]
                have HLD := Lib.hid (run_loadAt_mid (P := Tryd.prog) w4.drew q 0 26 (atC x) _ (at_range HA1.out) hu rfl (by rw [hi, atC_len]))
                have HGT : Hid (∀ w, (do eqGuard .gtr 3 (.tmp 51) (.const (.int .i64 0)) (.int .i64 ((m : Int) + 1)) (.int .i64 0); Go.binOp .gtr 3 (.int .i64 ((m : Int) + 1)) (.int .i64 0) : Sem Value).run Tryd.prog w = .ok (.bool true) w) := by
                  have h1 : (0 : Int) < (m : Int) + 1 := by omega
                  show ∀ w, _ = _
                  intro w
                  go_simp
                have HSB : Hid (∀ {x y : Operand} (w : World), (do eqGuard .sub 3 x y (.int .i64 ((m : Int) + 1)) (.int .i64 1); Go.binOp .sub 3 (.int .i64 ((m : Int) + 1)) (.int .i64 1) : Sem Value).run Tryd.prog w = .ok (.int .i64 m) w) := by
                  show ∀ (x y : Operand) (w : World), _ = _
                  intro x y w
                  go_simp
                  rw [IntKind.wrap_i64]
                  omega
                have HIX : Hid (∀ w, (Instr.index 9 (.string s) (.int .i64 m)).run Tryd.prog w = .ok (.int .u8 (s[m].toNat)) w) := by
                  show ∀ w, _ = _
                  intro w
                  go_simp
                have hmi2 : (m : Int) < (s.size : Int) + 1 := by omega
                have HIB : Hid (∀ w, (Instr.indexAt 86 (.slice (some ⟨b, 0, none⟩) (s.size + 1) (s.size + 1)) (.int .i64 m)).run Tryd.prog w = .ok (.pointer (some ⟨b, m, none⟩)) w) := by
                  show ∀ w, _ = _
                  intro w
                  go_simp
                have HIN : Hid (∀ w, (Instr.indexAt 86 (.slice (some ⟨N, 0, none⟩) (s.size + 1) (s.size + 1)) (.int .i64 m)).run Tryd.prog w = .ok (.pointer (some ⟨N, m, none⟩)) w) := by
                  show ∀ w, _ = _
                  intro w
                  go_simp
                have HV : Hid (advF x s g (m + 1) = (gi || (x.p (s[m].toNat) && (g m || (x.many && advF x s g m))))) := by
                  show _ = _
                  rw [adv_own, HBI.out, bt_get s m hms]
                have HC0 := Lib.hid (fun w => contains_any x (s[m].toNat) w (UInt8.toNat_lt _))
                have HR4 : Hid (w4.drew.rowIs N 4 (s.size + 1) (fun j => .bool (if j = m + 1 then gi else if j < m + 1 then advF x s g j else false))) := HR1.out
                have HG4 : Hid (w4.drew.rowIs b 4 (s.size + 1) (fun j => .bool (g j))) := HG1.out
                have HA4 : Hid (AtIn w4.drew q x) := HA1.out
                have HB4 : Hid (Below w.heap.size w w4.drew) := HB1.out.drew
                have hq4 : q < w4.drew.heap.size := (Array.getElem?_eq_some_iff.1 HA1.out).1
                have hN5 : N < w4.drew.heap.size := hN4
                clear HR1 HG1 HA1 HB1 hN4
                cases hpx : x.p (s[m].toNat) with
                | false =>
                  rw [hpx] at HV
                  have HC := HC0
                  rw [hpx] at HC
                  have HVE : Hid (advF x s g (m + 1) = gi) := by
                    show _ = _
                    rw [HV.out]
                    exact Bool.or_false _
                  refine wp_region_at 28 #[false, false, false, false, false, false, false, false, false, false, false, false, false, false, false, false, false, false, false, false, false, false, false, false, false, false, false, false] rfl rfl (by kernel_rfl) ?_
                  refine wpAny_at (i := 0) (v := .int .i64 ((m : Int) + 1)) (some 51) rfl rfl (by kernel_rfl) (by kernel_rfl) (by kernel_rfl) (fun _ _ _ h => h) (by kernel_rfl) (fun _ => ex_move _ _ rfl (by kernel_rfl)) ?_
                  simp only [Act.put, List.setIfInBounds_toArray, List.set_cons_zero, List.set_cons_succ]
                  refine wpAny_at (i := 1) (v := .bool true) (some 52) rfl rfl (by kernel_rfl) (by kernel_rfl) (by kernel_rfl) (fun _ _ _ h => h) (by kernel_rfl) (fun _ => ex_binOp .gtr 3 _ _ _ (.int .i64 ((m : Int) + 1)) (.int .i64 0) _ rfl (by kernel_rfl) (by kernel_rfl) (HGT.out _)) ?_
                  simp only [Act.put, List.setIfInBounds_toArray, List.set_cons_zero, List.set_cons_succ]
                  refine wpAny_at (i := 2) (v := .bool true) (some 53) rfl rfl (by kernel_rfl) (by kernel_rfl) (by kernel_rfl) (fun _ _ _ h => h) (by kernel_rfl) (fun _ => ex_move _ _ rfl (by kernel_rfl)) ?_
                  simp only [Act.put, List.setIfInBounds_toArray, List.set_cons_zero, List.set_cons_succ]
                  refine wpAny_at (i := 4) (v := .string s) (some 55) rfl rfl (by kernel_rfl) (by kernel_rfl) (by kernel_rfl) (fun _ _ _ h => h) (by kernel_rfl) (fun _ => ex_move _ _ rfl (by kernel_rfl)) ?_
                  simp only [Act.put, List.setIfInBounds_toArray, List.set_cons_zero, List.set_cons_succ]
                  refine wpAny_at (i := 5) (v := .int .i64 ((m : Int) + 1)) (some 56) rfl rfl (by kernel_rfl) (by kernel_rfl) (by kernel_rfl) (fun _ _ _ h => h) (by kernel_rfl) (fun _ => ex_move _ _ rfl (by kernel_rfl)) ?_
                  simp only [Act.put, List.setIfInBounds_toArray, List.set_cons_zero, List.set_cons_succ]
                  refine wpAny_at (i := 6) (v := .int .i64 m) (some 57) rfl rfl (by kernel_rfl) (by kernel_rfl) (by kernel_rfl) (fun _ _ _ h => h) (by kernel_rfl) (fun _ => ex_binOp .sub 3 _ _ _ (.int .i64 ((m : Int) + 1)) (.int .i64 1) _ rfl (by kernel_rfl) (by kernel_rfl) (HSB.out _)) ?_
                  simp only [Act.put, List.setIfInBounds_toArray, List.set_cons_zero, List.set_cons_succ]
                  refine wpAny_at (i := 7) (v := .int .u8 (s[m].toNat)) (some 58) rfl rfl (by kernel_rfl) (by kernel_rfl) (by kernel_rfl) (fun _ _ _ h => h) (by kernel_rfl) (fun _ => ex_index 9 _ _ (.string s) (.int .i64 m) _ rfl (by kernel_rfl) (by kernel_rfl) (HIX.out _)) ?_
                  simp only [Act.put, List.setIfInBounds_toArray, List.set_cons_zero, List.set_cons_succ]
                  refine wpAny_val 3 (some 54) (.agg (atC x).toArray) (by kernel_rfl) rfl rfl (by kernel_rfl) (ex_load 26 _ (.pointer (some ⟨q, 0, none⟩)) _ rfl (by kernel_rfl) (HLD.out)) ?_
                  simp only [Act.put, List.setIfInBounds_toArray, List.set_cons_zero, List.set_cons_succ]
                  refine wpAny_call 8 (some 59) (by kernel_rfl) rfl rfl (by kernel_rfl) 82 (#[.agg (atC x).toArray, .int .u8 (s[m].toNat)]) (by go_simp) (HC.out _) ?_
                  rintro e w7 ⟨rfl, hb7⟩
                  refine ⟨_, rfl, ?_⟩
                  have qa := (HG4.out.of_block (hb7.block _ HG4.out.lt)).cell (i := m) (by omega)
                  have qn := (HR4.out.of_block (hb7.block _ HR4.out.lt)).cell (i := m) (by omega)
                  have qy := (HA4.out.keep (hb7.block _ hq4)).many
                  rw [if_neg (by omega), if_pos (by omega)] at qn
                  have rf7 := (HR4.out.of_block (hb7.block _ HR4.out.lt)).frozen (m + 1)
                  have r7 := (HR4.out.of_block (hb7.block _ HR4.out.lt)).cell (i := m + 1) hil
                  rw [if_pos rfl] at r7
                  change wpAny _ _ _ _ _ _ (Act.put _ (some 59) _) _
                  simp only [Act.put, List.setIfInBounds_toArray, List.set_cons_zero, List.set_cons_succ]
                  refine wpAny_at (i := 9) (v := .bool false) (some 60) rfl rfl (by kernel_rfl) (by kernel_rfl) (by kernel_rfl) (fun _ _ _ h => h) (by kernel_rfl) (fun _ => ex_pick _ _ _ true (.bool false) (.bool false) rfl (by kernel_rfl) (by kernel_rfl) (by kernel_rfl)) ?_
                  simp only [Act.put, List.setIfInBounds_toArray, List.set_cons_zero, List.set_cons_succ]
                  refine wpAny_at (i := 10) (v := .bool false) (some 61) rfl rfl (by kernel_rfl) (by kernel_rfl) (by kernel_rfl) (fun _ _ _ h => h) (by kernel_rfl) (fun _ => ex_move _ _ rfl (by kernel_rfl)) ?_
                  simp only [Act.put, List.setIfInBounds_toArray, List.set_cons_zero, List.set_cons_succ]
                  refine wpAny_skip 11 (some 62) rfl rfl (by kernel_rfl) (by kernel_rfl) (by kernel_rfl) (fun _ _ _ h => h) (by kernel_rfl) ?_
                  simp only [Act.put, List.setIfInBounds_toArray, List.set_cons_zero, List.set_cons_succ]
                  refine wpAny_skip 12 (some 63) rfl rfl (by kernel_rfl) (by kernel_rfl) (by kernel_rfl) (fun _ _ _ h => h) (by kernel_rfl) ?_
                  simp only [Act.put, List.setIfInBounds_toArray, List.set_cons_zero, List.set_cons_succ]
                  refine wpAny_skip 13 (some 64) rfl rfl (by kernel_rfl) (by kernel_rfl) (by kernel_rfl) (fun _ _ _ h => h) (by kernel_rfl) ?_
                  simp only [Act.put, List.setIfInBounds_toArray, List.set_cons_zero, List.set_cons_succ]
                  refine wpAny_skip 14 (some 65) rfl rfl (by kernel_rfl) (by kernel_rfl) (by kernel_rfl) (fun _ _ _ h => h) (by kernel_rfl) ?_
                  simp only [Act.put, List.setIfInBounds_toArray, List.set_cons_zero, List.set_cons_succ]
                  refine wpAny_skip 15 (some 66) rfl rfl (by kernel_rfl) (by kernel_rfl) (by kernel_rfl) (fun _ _ _ h => h) (by kernel_rfl) ?_
                  simp only [Act.put, List.setIfInBounds_toArray, List.set_cons_zero, List.set_cons_succ]
                  refine wpAny_skip 16 (some 67) rfl rfl (by kernel_rfl) (by kernel_rfl) (by kernel_rfl) (fun _ _ _ h => h) (by kernel_rfl) ?_
                  simp only [Act.put, List.setIfInBounds_toArray, List.set_cons_zero, List.set_cons_succ]
                  refine wpAny_skip 17 (some 68) rfl rfl (by kernel_rfl) (by kernel_rfl) (by kernel_rfl) (fun _ _ _ h => h) (by kernel_rfl) ?_
                  simp only [Act.put, List.setIfInBounds_toArray, List.set_cons_zero, List.set_cons_succ]
                  refine wpAny_skip 18 (some 69) rfl rfl (by kernel_rfl) (by kernel_rfl) (by kernel_rfl) (fun _ _ _ h => h) (by kernel_rfl) ?_
                  simp only [Act.put, List.setIfInBounds_toArray, List.set_cons_zero, List.set_cons_succ]
                  refine wpAny_skip 19 (some 70) rfl rfl (by kernel_rfl) (by kernel_rfl) (by kernel_rfl) (fun _ _ _ h => h) (by kernel_rfl) ?_
                  simp only [Act.put, List.setIfInBounds_toArray, List.set_cons_zero, List.set_cons_succ]
                  refine wpAny_skip 20 (some 71) rfl rfl (by kernel_rfl) (by kernel_rfl) (by kernel_rfl) (fun _ _ _ h => h) (by kernel_rfl) ?_
                  simp only [Act.put, List.setIfInBounds_toArray, List.set_cons_zero, List.set_cons_succ]
                  refine wpAny_skip 21 (some 72) rfl rfl (by kernel_rfl) (by kernel_rfl) (by kernel_rfl) (fun _ _ _ h => h) (by kernel_rfl) ?_
                  simp only [Act.put, List.setIfInBounds_toArray, List.set_cons_zero, List.set_cons_succ]
                  refine wpAny_skip 22 (some 73) rfl rfl (by kernel_rfl) (by kernel_rfl) (by kernel_rfl) (fun _ _ _ h => h) (by kernel_rfl) ?_
                  simp only [Act.put, List.setIfInBounds_toArray, List.set_cons_zero, List.set_cons_succ]
                  refine wpAny_skip 23 (some 74) rfl rfl (by kernel_rfl) (by kernel_rfl) (by kernel_rfl) (fun _ _ _ h => h) (by kernel_rfl) ?_
                  simp only [Act.put, List.setIfInBounds_toArray, List.set_cons_zero, List.set_cons_succ]
                  refine wpAny_skip 24 (some 75) rfl rfl (by kernel_rfl) (by kernel_rfl) (by kernel_rfl) (fun _ _ _ h => h) (by kernel_rfl) ?_
                  simp only [Act.put, List.setIfInBounds_toArray, List.set_cons_zero, List.set_cons_succ]
                  refine wpAny_skip 25 (some 76) rfl rfl (by kernel_rfl) (by kernel_rfl) (by kernel_rfl) (fun _ _ _ h => h) (by kernel_rfl) ?_
                  simp only [Act.put, List.setIfInBounds_toArray, List.set_cons_zero, List.set_cons_succ]
                  refine wpAny_skip 26 (some 77) rfl rfl (by kernel_rfl) (by kernel_rfl) (by kernel_rfl) (fun _ _ _ h => h) (by kernel_rfl) ?_
                  simp only [Act.put, List.setIfInBounds_toArray, List.set_cons_zero, List.set_cons_succ]
                  refine wpAny_at (i := 27) (v := .bool false) (some 78) rfl rfl (by kernel_rfl) (by kernel_rfl) (by kernel_rfl) (fun _ _ _ h => h) (by kernel_rfl) (fun _ => ex_pick _ _ _ false (undef) (.bool false) rfl (by kernel_rfl) (by kernel_rfl) (by kernel_rfl)) ?_
                  simp only [Act.put, List.setIfInBounds_toArray, List.set_cons_zero, List.set_cons_succ]
                  refine wpAny_done (by kernel_rfl) ?_ _
                  go_wp2_with fail
                  have HR7 := Lib.hid (HR4.out.of_block (hb7.block _ HR4.out.lt))
                  have HG7 := Lib.hid (HG4.out.of_block (hb7.block _ HG4.out.lt))
                  have HA7 := Lib.hid (HA4.out.keep (hb7.block _ hq4))
                  have HB7 := Lib.hid (HB4.out.trans (hb7.mono HB4.out.size))
                  have HRE : Hid (w7.rowIs N 4 (s.size + 1) (fun j => .bool (if j < m + 1 + 1 then advF x s g j else false))) := HR7.out.congr fun j hj => by
                    by_cases h : j = m + 1
                    · rw [if_pos h, if_pos (by omega), h, HVE.out]
                    · rw [if_neg h]
                      by_cases h2 : j < m + 1
                      · rw [if_pos h2, if_pos (by omega)]
                      · rw [if_neg h2, if_neg (by omega)]
                  go_roundg (s.size + 1 - (m + 1 + 1))
                  case measure => omega
                  case rel => exact ⟨m + 1 + 1, by omega, by go_num, HRE.out, HG7.out, HA7.out, HB7.out, Nat.le_refl _⟩
                | true =>
                  rw [hpx] at HV
                  have HC := HC0
                  rw [hpx] at HC
                  cases hfi : g m with
                  | true =>
                    rw [hfi] at HV
                    have HVE : Hid (advF x s g (m + 1) = true) := by
                      show _ = _
                      rw [HV.out]
                      exact Bool.or_true _
                    refine wp_region_at 28 #[false, false, false, false, false, false, false, false, false, false, false, false, false, false, false, false, false, false, false, false, false, false, false, false, false, false, false, false] rfl rfl (by kernel_rfl) ?_
                    refine wpAny_at (i := 0) (v := .int .i64 ((m : Int) + 1)) (some 51) rfl rfl (by kernel_rfl) (by kernel_rfl) (by kernel_rfl) (fun _ _ _ h => h) (by kernel_rfl) (fun _ => ex_move _ _ rfl (by kernel_rfl)) ?_
                    simp only [Act.put, List.setIfInBounds_toArray, List.set_cons_zero, List.set_cons_succ]
                    refine wpAny_at (i := 1) (v := .bool true) (some 52) rfl rfl (by kernel_rfl) (by kernel_rfl) (by kernel_rfl) (fun _ _ _ h => h) (by kernel_rfl) (fun _ => ex_binOp .gtr 3 _ _ _ (.int .i64 ((m : Int) + 1)) (.int .i64 0) _ rfl (by kernel_rfl) (by kernel_rfl) (HGT.out _)) ?_
                    simp only [Act.put, List.setIfInBounds_toArray, List.set_cons_zero, List.set_cons_succ]
                    refine wpAny_at (i := 2) (v := .bool true) (some 53) rfl rfl (by kernel_rfl) (by kernel_rfl) (by kernel_rfl) (fun _ _ _ h => h) (by kernel_rfl) (fun _ => ex_move _ _ rfl (by kernel_rfl)) ?_
                    simp only [Act.put, List.setIfInBounds_toArray, List.set_cons_zero, List.set_cons_succ]
                    refine wpAny_at (i := 4) (v := .string s) (some 55) rfl rfl (by kernel_rfl) (by kernel_rfl) (by kernel_rfl) (fun _ _ _ h => h) (by kernel_rfl) (fun _ => ex_move _ _ rfl (by kernel_rfl)) ?_
                    simp only [Act.put, List.setIfInBounds_toArray, List.set_cons_zero, List.set_cons_succ]
                    refine wpAny_at (i := 5) (v := .int .i64 ((m : Int) + 1)) (some 56) rfl rfl (by kernel_rfl) (by kernel_rfl) (by kernel_rfl) (fun _ _ _ h => h) (by kernel_rfl) (fun _ => ex_move _ _ rfl (by kernel_rfl)) ?_
                    simp only [Act.put, List.setIfInBounds_toArray, List.set_cons_zero, List.set_cons_succ]
                    refine wpAny_at (i := 6) (v := .int .i64 m) (some 57) rfl rfl (by kernel_rfl) (by kernel_rfl) (by kernel_rfl) (fun _ _ _ h => h) (by kernel_rfl) (fun _ => ex_binOp .sub 3 _ _ _ (.int .i64 ((m : Int) + 1)) (.int .i64 1) _ rfl (by kernel_rfl) (by kernel_rfl) (HSB.out _)) ?_
                    simp only [Act.put, List.setIfInBounds_toArray, List.set_cons_zero, List.set_cons_succ]
                    refine wpAny_at (i := 7) (v := .int .u8 (s[m].toNat)) (some 58) rfl rfl (by kernel_rfl) (by kernel_rfl) (by kernel_rfl) (fun _ _ _ h => h) (by kernel_rfl) (fun _ => ex_index 9 _ _ (.string s) (.int .i64 m) _ rfl (by kernel_rfl) (by kernel_rfl) (HIX.out _)) ?_
                    simp only [Act.put, List.setIfInBounds_toArray, List.set_cons_zero, List.set_cons_succ]
                    refine wpAny_val 3 (some 54) (.agg (atC x).toArray) (by kernel_rfl) rfl rfl (by kernel_rfl) (ex_load 26 _ (.pointer (some ⟨q, 0, none⟩)) _ rfl (by kernel_rfl) (HLD.out)) ?_
                    simp only [Act.put, List.setIfInBounds_toArray, List.set_cons_zero, List.set_cons_succ]
                    refine wpAny_call 8 (some 59) (by kernel_rfl) rfl rfl (by kernel_rfl) 82 (#[.agg (atC x).toArray, .int .u8 (s[m].toNat)]) (by go_simp) (HC.out _) ?_
                    rintro e w7 ⟨rfl, hb7⟩
                    refine ⟨_, rfl, ?_⟩
                    have qa := (HG4.out.of_block (hb7.block _ HG4.out.lt)).cell (i := m) (by omega)
                    have qn := (HR4.out.of_block (hb7.block _ HR4.out.lt)).cell (i := m) (by omega)
                    have qy := (HA4.out.keep (hb7.block _ hq4)).many
                    rw [if_neg (by omega), if_pos (by omega)] at qn
                    rw [hfi] at qa
                    have rf7 := (HR4.out.of_block (hb7.block _ HR4.out.lt)).frozen (m + 1)
                    have r7 := (HR4.out.of_block (hb7.block _ HR4.out.lt)).cell (i := m + 1) hil
                    rw [if_pos rfl] at r7
                    change wpAny _ _ _ _ _ _ (Act.put _ (some 59) _) _
                    simp only [Act.put, List.setIfInBounds_toArray, List.set_cons_zero, List.set_cons_succ]
                    refine wpAny_at (i := 9) (v := .bool true) (some 60) rfl rfl (by kernel_rfl) (by kernel_rfl) (by kernel_rfl) (fun _ _ _ h => h) (by kernel_rfl) (fun _ => ex_pick _ _ _ true (.bool true) (.bool false) rfl (by kernel_rfl) (by kernel_rfl) (by kernel_rfl)) ?_
                    simp only [Act.put, List.setIfInBounds_toArray, List.set_cons_zero, List.set_cons_succ]
                    refine wpAny_at (i := 10) (v := .bool true) (some 61) rfl rfl (by kernel_rfl) (by kernel_rfl) (by kernel_rfl) (fun _ _ _ h => h) (by kernel_rfl) (fun _ => ex_move _ _ rfl (by kernel_rfl)) ?_
                    simp only [Act.put, List.setIfInBounds_toArray, List.set_cons_zero, List.set_cons_succ]
                    refine wpAny_at (i := 11) (v := .slice (some ⟨b, 0, none⟩) (s.size + 1) (s.size + 1)) (some 62) rfl rfl (by kernel_rfl) (by kernel_rfl) (by kernel_rfl) (fun _ _ _ h => h) (by kernel_rfl) (fun _ => ex_move _ _ rfl (by kernel_rfl)) ?_
                    simp only [Act.put, List.setIfInBounds_toArray, List.set_cons_zero, List.set_cons_succ]
                    refine wpAny_at (i := 12) (v := .int .i64 ((m : Int) + 1)) (some 63) rfl rfl (by kernel_rfl) (by kernel_rfl) (by kernel_rfl) (fun _ _ _ h => h) (by kernel_rfl) (fun _ => ex_move _ _ rfl (by kernel_rfl)) ?_
                    simp only [Act.put, List.setIfInBounds_toArray, List.set_cons_zero, List.set_cons_succ]
                    refine wpAny_at (i := 13) (v := .int .i64 m) (some 64) rfl rfl (by kernel_rfl) (by kernel_rfl) (by kernel_rfl) (fun _ _ _ h => h) (by kernel_rfl) (fun _ => ex_binOp .sub 3 _ _ _ (.int .i64 ((m : Int) + 1)) (.int .i64 1) _ rfl (by kernel_rfl) (by kernel_rfl) (HSB.out _)) ?_
                    simp only [Act.put, List.setIfInBounds_toArray, List.set_cons_zero, List.set_cons_succ]
                    refine wpAny_at (i := 14) (v := .pointer (some ⟨b, m, none⟩)) (some 65) rfl rfl (by kernel_rfl) (by kernel_rfl) (by kernel_rfl) (fun _ _ _ h => h) (by kernel_rfl) (fun _ => ex_indexAddr 86 _ _ (.slice (some ⟨b, 0, none⟩) (s.size + 1) (s.size + 1)) (.int .i64 m) _ rfl (by kernel_rfl) (by kernel_rfl) (HIB.out _)) ?_
                    simp only [Act.put, List.setIfInBounds_toArray, List.set_cons_zero, List.set_cons_succ]
                    refine wpAny_val 15 (some 66) (.bool true) (by kernel_rfl) rfl rfl (by kernel_rfl) (ex_load 4 _ (.pointer (some ⟨b, m, none⟩)) _ rfl (by kernel_rfl) (by go_simp)) ?_
                    simp only [Act.put, List.setIfInBounds_toArray, List.set_cons_zero, List.set_cons_succ]
                    refine wpAny_at (i := 16) (v := .bool true) (some 67) rfl rfl (by kernel_rfl) (by kernel_rfl) (by kernel_rfl) (fun _ _ _ h => h) (by kernel_rfl) (fun _ => ex_move _ _ rfl (by kernel_rfl)) ?_
                    simp only [Act.put, List.setIfInBounds_toArray, List.set_cons_zero, List.set_cons_succ]
                    refine wpAny_skip 17 (some 68) rfl rfl (by kernel_rfl) (by kernel_rfl) (by kernel_rfl) (fun _ _ _ h => h) (by kernel_rfl) ?_
                    simp only [Act.put, List.setIfInBounds_toArray, List.set_cons_zero, List.set_cons_succ]
                    refine wpAny_skip 18 (some 69) rfl rfl (by kernel_rfl) (by kernel_rfl) (by kernel_rfl) (fun _ _ _ h => h) (by kernel_rfl) ?_
                    simp only [Act.put, List.setIfInBounds_toArray, List.set_cons_zero, List.set_cons_succ]
                    refine wpAny_skip 19 (some 70) rfl rfl (by kernel_rfl) (by kernel_rfl) (by kernel_rfl) (fun _ _ _ h => h) (by kernel_rfl) ?_
                    simp only [Act.put, List.setIfInBounds_toArray, List.set_cons_zero, List.set_cons_succ]
                    refine wpAny_skip 20 (some 71) rfl rfl (by kernel_rfl) (by kernel_rfl) (by kernel_rfl) (fun _ _ _ h => h) (by kernel_rfl) ?_
                    simp only [Act.put, List.setIfInBounds_toArray, List.set_cons_zero, List.set_cons_succ]
                    refine wpAny_skip 21 (some 72) rfl rfl (by kernel_rfl) (by kernel_rfl) (by kernel_rfl) (fun _ _ _ h => h) (by kernel_rfl) ?_
                    simp only [Act.put, List.setIfInBounds_toArray, List.set_cons_zero, List.set_cons_succ]
                    refine wpAny_skip 22 (some 73) rfl rfl (by kernel_rfl) (by kernel_rfl) (by kernel_rfl) (fun _ _ _ h => h) (by kernel_rfl) ?_
                    simp only [Act.put, List.setIfInBounds_toArray, List.set_cons_zero, List.set_cons_succ]
                    refine wpAny_skip 23 (some 74) rfl rfl (by kernel_rfl) (by kernel_rfl) (by kernel_rfl) (fun _ _ _ h => h) (by kernel_rfl) ?_
                    simp only [Act.put, List.setIfInBounds_toArray, List.set_cons_zero, List.set_cons_succ]
                    refine wpAny_skip 24 (some 75) rfl rfl (by kernel_rfl) (by kernel_rfl) (by kernel_rfl) (fun _ _ _ h => h) (by kernel_rfl) ?_
                    simp only [Act.put, List.setIfInBounds_toArray, List.set_cons_zero, List.set_cons_succ]
                    refine wpAny_skip 25 (some 76) rfl rfl (by kernel_rfl) (by kernel_rfl) (by kernel_rfl) (fun _ _ _ h => h) (by kernel_rfl) ?_
                    simp only [Act.put, List.setIfInBounds_toArray, List.set_cons_zero, List.set_cons_succ]
                    refine wpAny_at (i := 26) (v := .bool true) (some 77) rfl rfl (by kernel_rfl) (by kernel_rfl) (by kernel_rfl) (fun _ _ _ h => h) (by kernel_rfl) (fun _ => ex_pick _ _ _ true (.bool true) (undef) rfl (by kernel_rfl) (by kernel_rfl) (by kernel_rfl)) ?_
                    simp only [Act.put, List.setIfInBounds_toArray, List.set_cons_zero, List.set_cons_succ]
                    refine wpAny_at (i := 27) (v := .bool true) (some 78) rfl rfl (by kernel_rfl) (by kernel_rfl) (by kernel_rfl) (fun _ _ _ h => h) (by kernel_rfl) (fun _ => ex_pick _ _ _ true (.bool true) (.bool false) rfl (by kernel_rfl) (by kernel_rfl) (by kernel_rfl)) ?_
                    simp only [Act.put, List.setIfInBounds_toArray, List.set_cons_zero, List.set_cons_succ]
                    refine wpAny_done (by kernel_rfl) ?_ _
                    go_wp2_with fail
                    have HR7 := Lib.hid (HR4.out.of_block (hb7.block _ HR4.out.lt))
                    have HG7 := Lib.hid (HG4.out.of_block (hb7.block _ HG4.out.lt))
                    have HA7 := Lib.hid (HA4.out.keep (hb7.block _ hq4))
                    have HB7 := Lib.hid (HB4.out.trans (hb7.mono HB4.out.size))
                    have HRE : Hid ((w7.setCell ⟨N, m + 1, none⟩ (.bool true)).rowIs N 4 (s.size + 1) (fun j => .bool (if j < m + 1 + 1 then advF x s g j else false))) := (HR7.out.set (m + 1) (.bool true)).congr fun j hj => by
                      by_cases h : j = m + 1
                      · rw [if_pos h, if_pos (by omega), h, HVE.out]
                      · rw [if_neg h, if_neg h]
                        by_cases h2 : j < m + 1
                        · rw [if_pos h2, if_pos (by omega)]
                        · rw [if_neg h2, if_neg (by omega)]
                    go_roundg (s.size + 1 - (m + 1 + 1))
                    case measure => omega
                    case rel => exact ⟨m + 1 + 1, by omega, by go_num, HRE.out, HG7.out.of_block (Below.heap_setCell _ _ _ _ (show b ≠ N by omega)), HA7.out.keep (Below.heap_setCell _ _ _ _ (show q ≠ N by omega)), HB7.out.setCell (p := ⟨N, m + 1, none⟩) (show w.heap.size ≤ N by omega) _, Nat.le_refl _⟩
                  | false =>
                    rw [hfi] at HV
                    cases hmm : x.many with
                    | false =>
                      rw [hmm] at HV
                      have HVE : Hid (advF x s g (m + 1) = gi) := by
                        show _ = _
                        rw [HV.out]
                        exact Bool.or_false _
                      refine wp_region_at 28 #[false, false, false, false, false, false, false, false, false, false, false, false, false, false, false, false, false, false, false, false, false, false, false, false, false, false, false, false] rfl rfl (by kernel_rfl) ?_
                      refine wpAny_at (i := 0) (v := .int .i64 ((m : Int) + 1)) (some 51) rfl rfl (by kernel_rfl) (by kernel_rfl) (by kernel_rfl) (fun _ _ _ h => h) (by kernel_rfl) (fun _ => ex_move _ _ rfl (by kernel_rfl)) ?_
                      simp only [Act.put, List.setIfInBounds_toArray, List.set_cons_zero, List.set_cons_succ]
                      refine wpAny_at (i := 1) (v := .bool true) (some 52) rfl rfl (by kernel_rfl) (by kernel_rfl) (by kernel_rfl) (fun _ _ _ h => h) (by kernel_rfl) (fun _ => ex_binOp .gtr 3 _ _ _ (.int .i64 ((m : Int) + 1)) (.int .i64 0) _ rfl (by kernel_rfl) (by kernel_rfl) (HGT.out _)) ?_
                      simp only [Act.put, List.setIfInBounds_toArray, List.set_cons_zero, List.set_cons_succ]
                      refine wpAny_at (i := 2) (v := .bool true) (some 53) rfl rfl (by kernel_rfl) (by kernel_rfl) (by kernel_rfl) (fun _ _ _ h => h) (by kernel_rfl) (fun _ => ex_move _ _ rfl (by kernel_rfl)) ?_
                      simp only [Act.put, List.setIfInBounds_toArray, List.set_cons_zero, List.set_cons_succ]
                      refine wpAny_at (i := 4) (v := .string s) (some 55) rfl rfl (by kernel_rfl) (by kernel_rfl) (by kernel_rfl) (fun _ _ _ h => h) (by kernel_rfl) (fun _ => ex_move _ _ rfl (by kernel_rfl)) ?_
                      simp only [Act.put, List.setIfInBounds_toArray, List.set_cons_zero, List.set_cons_succ]
                      refine wpAny_at (i := 5) (v := .int .i64 ((m : Int) + 1)) (some 56) rfl rfl (by kernel_rfl) (by kernel_rfl) (by kernel_rfl) (fun _ _ _ h => h) (by kernel_rfl) (fun _ => ex_move _ _ rfl (by kernel_rfl)) ?_
                      simp only [Act.put, List.setIfInBounds_toArray, List.set_cons_zero, List.set_cons_succ]
                      refine wpAny_at (i := 6) (v := .int .i64 m) (some 57) rfl rfl (by kernel_rfl) (by kernel_rfl) (by kernel_rfl) (fun _ _ _ h => h) (by kernel_rfl) (fun _ => ex_binOp .sub 3 _ _ _ (.int .i64 ((m : Int) + 1)) (.int .i64 1) _ rfl (by kernel_rfl) (by kernel_rfl) (HSB.out _)) ?_
                      simp only [Act.put, List.setIfInBounds_toArray, List.set_cons_zero, List.set_cons_succ]
                      refine wpAny_at (i := 7) (v := .int .u8 (s[m].toNat)) (some 58) rfl rfl (by kernel_rfl) (by kernel_rfl) (by kernel_rfl) (fun _ _ _ h => h) (by kernel_rfl) (fun _ => ex_index 9 _ _ (.string s) (.int .i64 m) _ rfl (by kernel_rfl) (by kernel_rfl) (HIX.out _)) ?_
                      simp only [Act.put, List.setIfInBounds_toArray, List.set_cons_zero, List.set_cons_succ]
                      refine wpAny_val 3 (some 54) (.agg (atC x).toArray) (by kernel_rfl) rfl rfl (by kernel_rfl) (ex_load 26 _ (.pointer (some ⟨q, 0, none⟩)) _ rfl (by kernel_rfl) (HLD.out)) ?_
                      simp only [Act.put, List.setIfInBounds_toArray, List.set_cons_zero, List.set_cons_succ]
                      refine wpAny_call 8 (some 59) (by kernel_rfl) rfl rfl (by kernel_rfl) 82 (#[.agg (atC x).toArray, .int .u8 (s[m].toNat)]) (by go_simp) (HC.out _) ?_
                      rintro e w7 ⟨rfl, hb7⟩
                      refine ⟨_, rfl, ?_⟩
                      have qa := (HG4.out.of_block (hb7.block _ HG4.out.lt)).cell (i := m) (by omega)
                      have qn := (HR4.out.of_block (hb7.block _ HR4.out.lt)).cell (i := m) (by omega)
                      have qy := (HA4.out.keep (hb7.block _ hq4)).many
                      rw [if_neg (by omega), if_pos (by omega)] at qn
                      rw [hfi] at qa
                      rw [hmm] at qy
                      have rf7 := (HR4.out.of_block (hb7.block _ HR4.out.lt)).frozen (m + 1)
                      have r7 := (HR4.out.of_block (hb7.block _ HR4.out.lt)).cell (i := m + 1) hil
                      rw [if_pos rfl] at r7
                      change wpAny _ _ _ _ _ _ (Act.put _ (some 59) _) _
                      simp only [Act.put, List.setIfInBounds_toArray, List.set_cons_zero, List.set_cons_succ]
                      refine wpAny_at (i := 9) (v := .bool true) (some 60) rfl rfl (by kernel_rfl) (by kernel_rfl) (by kernel_rfl) (fun _ _ _ h => h) (by kernel_rfl) (fun _ => ex_pick _ _ _ true (.bool true) (.bool false) rfl (by kernel_rfl) (by kernel_rfl) (by kernel_rfl)) ?_
                      simp only [Act.put, List.setIfInBounds_toArray, List.set_cons_zero, List.set_cons_succ]
                      refine wpAny_at (i := 10) (v := .bool true) (some 61) rfl rfl (by kernel_rfl) (by kernel_rfl) (by kernel_rfl) (fun _ _ _ h => h) (by kernel_rfl) (fun _ => ex_move _ _ rfl (by kernel_rfl)) ?_
                      simp only [Act.put, List.setIfInBounds_toArray, List.set_cons_zero, List.set_cons_succ]
                      refine wpAny_at (i := 11) (v := .slice (some ⟨b, 0, none⟩) (s.size + 1) (s.size + 1)) (some 62) rfl rfl (by kernel_rfl) (by kernel_rfl) (by kernel_rfl) (fun _ _ _ h => h) (by kernel_rfl) (fun _ => ex_move _ _ rfl (by kernel_rfl)) ?_
                      simp only [Act.put, List.setIfInBounds_toArray, List.set_cons_zero, List.set_cons_succ]
                      refine wpAny_at (i := 12) (v := .int .i64 ((m : Int) + 1)) (some 63) rfl rfl (by kernel_rfl) (by kernel_rfl) (by kernel_rfl) (fun _ _ _ h => h) (by kernel_rfl) (fun _ => ex_move _ _ rfl (by kernel_rfl)) ?_
                      simp only [Act.put, List.setIfInBounds_toArray, List.set_cons_zero, List.set_cons_succ]
                      refine wpAny_at (i := 13) (v := .int .i64 m) (some 64) rfl rfl (by kernel_rfl) (by kernel_rfl) (by kernel_rfl) (fun _ _ _ h => h) (by kernel_rfl) (fun _ => ex_binOp .sub 3 _ _ _ (.int .i64 ((m : Int) + 1)) (.int .i64 1) _ rfl (by kernel_rfl) (by kernel_rfl) (HSB.out _)) ?_
                      simp only [Act.put, List.setIfInBounds_toArray, List.set_cons_zero, List.set_cons_succ]
                      refine wpAny_at (i := 14) (v := .pointer (some ⟨b, m, none⟩)) (some 65) rfl rfl (by kernel_rfl) (by kernel_rfl) (by kernel_rfl) (fun _ _ _ h => h) (by kernel_rfl) (fun _ => ex_indexAddr 86 _ _ (.slice (some ⟨b, 0, none⟩) (s.size + 1) (s.size + 1)) (.int .i64 m) _ rfl (by kernel_rfl) (by kernel_rfl) (HIB.out _)) ?_
                      simp only [Act.put, List.setIfInBounds_toArray, List.set_cons_zero, List.set_cons_succ]
                      refine wpAny_val 15 (some 66) (.bool false) (by kernel_rfl) rfl rfl (by kernel_rfl) (ex_load 4 _ (.pointer (some ⟨b, m, none⟩)) _ rfl (by kernel_rfl) (by go_simp)) ?_
                      simp only [Act.put, List.setIfInBounds_toArray, List.set_cons_zero, List.set_cons_succ]
                      refine wpAny_at (i := 16) (v := .bool false) (some 67) rfl rfl (by kernel_rfl) (by kernel_rfl) (by kernel_rfl) (fun _ _ _ h => h) (by kernel_rfl) (fun _ => ex_move _ _ rfl (by kernel_rfl)) ?_
                      simp only [Act.put, List.setIfInBounds_toArray, List.set_cons_zero, List.set_cons_succ]
                      refine wpAny_at (i := 17) (v := .pointer (some ⟨q, 33, none⟩)) (some 68) rfl rfl (by kernel_rfl) (by kernel_rfl) (by kernel_rfl) (fun _ _ _ h => h) (by kernel_rfl) (fun _ => ex_fieldAddr 26 _ 2 (.pointer (some ⟨q, 0, none⟩)) _ rfl (by kernel_rfl) (by go_simp)) ?_
                      simp only [Act.put, List.setIfInBounds_toArray, List.set_cons_zero, List.set_cons_succ]
                      refine wpAny_val 18 (some 69) (.bool false) (by kernel_rfl) rfl rfl (by kernel_rfl) (ex_load 4 _ (.pointer (some ⟨q, 33, none⟩)) _ rfl (by kernel_rfl) (by go_simp)) ?_
                      simp only [Act.put, List.setIfInBounds_toArray, List.set_cons_zero, List.set_cons_succ]
                      refine wpAny_at (i := 19) (v := .bool false) (some 70) rfl rfl (by kernel_rfl) (by kernel_rfl) (by kernel_rfl) (fun _ _ _ h => h) (by kernel_rfl) (fun _ => ex_move _ _ rfl (by kernel_rfl)) ?_
                      simp only [Act.put, List.setIfInBounds_toArray, List.set_cons_zero, List.set_cons_succ]
                      refine wpAny_skip 20 (some 71) rfl rfl (by kernel_rfl) (by kernel_rfl) (by kernel_rfl) (fun _ _ _ h => h) (by kernel_rfl) ?_
                      simp only [Act.put, List.setIfInBounds_toArray, List.set_cons_zero, List.set_cons_succ]
                      refine wpAny_skip 21 (some 72) rfl rfl (by kernel_rfl) (by kernel_rfl) (by kernel_rfl) (fun _ _ _ h => h) (by kernel_rfl) ?_
                      simp only [Act.put, List.setIfInBounds_toArray, List.set_cons_zero, List.set_cons_succ]
                      refine wpAny_skip 22 (some 73) rfl rfl (by kernel_rfl) (by kernel_rfl) (by kernel_rfl) (fun _ _ _ h => h) (by kernel_rfl) ?_
                      simp only [Act.put, List.setIfInBounds_toArray, List.set_cons_zero, List.set_cons_succ]
                      refine wpAny_skip 23 (some 74) rfl rfl (by kernel_rfl) (by kernel_rfl) (by kernel_rfl) (fun _ _ _ h => h) (by kernel_rfl) ?_
                      simp only [Act.put, List.setIfInBounds_toArray, List.set_cons_zero, List.set_cons_succ]
                      refine wpAny_skip 24 (some 75) rfl rfl (by kernel_rfl) (by kernel_rfl) (by kernel_rfl) (fun _ _ _ h => h) (by kernel_rfl) ?_
                      simp only [Act.put, List.setIfInBounds_toArray, List.set_cons_zero, List.set_cons_succ]
                      refine wpAny_at (i := 25) (v := .bool false) (some 76) rfl rfl (by kernel_rfl) (by kernel_rfl) (by kernel_rfl) (fun _ _ _ h => h) (by kernel_rfl) (fun _ => ex_pick _ _ _ false (undef) (.bool false) rfl (by kernel_rfl) (by kernel_rfl) (by kernel_rfl)) ?_
                      simp only [Act.put, List.setIfInBounds_toArray, List.set_cons_zero, List.set_cons_succ]
                      refine wpAny_at (i := 26) (v := .bool false) (some 77) rfl rfl (by kernel_rfl) (by kernel_rfl) (by kernel_rfl) (fun _ _ _ h => h) (by kernel_rfl) (fun _ => ex_pick _ _ _ false (.bool true) (.bool false) rfl (by kernel_rfl) (by kernel_rfl) (by kernel_rfl)) ?_
                      simp only [Act.put, List.setIfInBounds_toArray, List.set_cons_zero, List.set_cons_succ]
                      refine wpAny_at (i := 27) (v := .bool false) (some 78) rfl rfl (by kernel_rfl) (by kernel_rfl) (by kernel_rfl) (fun _ _ _ h => h) (by kernel_rfl) (fun _ => ex_pick _ _ _ true (.bool false) (.bool false) rfl (by kernel_rfl) (by kernel_rfl) (by kernel_rfl)) ?_
                      simp only [Act.put, List.setIfInBounds_toArray, List.set_cons_zero, List.set_cons_succ]
                      refine wpAny_done (by kernel_rfl) ?_ _
                      go_wp2_with fail
                      have HR7 := Lib.hid (HR4.out.of_block (hb7.block _ HR4.out.lt))
                      have HG7 := Lib.hid (HG4.out.of_block (hb7.block _ HG4.out.lt))
                      have HA7 := Lib.hid (HA4.out.keep (hb7.block _ hq4))
                      have HB7 := Lib.hid (HB4.out.trans (hb7.mono HB4.out.size))
                      have HRE : Hid (w7.rowIs N 4 (s.size + 1) (fun j => .bool (if j < m + 1 + 1 then advF x s g j else false))) := HR7.out.congr fun j hj => by
                        by_cases h : j = m + 1
                        · rw [if_pos h, if_pos (by omega), h, HVE.out]
                        · rw [if_neg h]
                          by_cases h2 : j < m + 1
                          · rw [if_pos h2, if_pos (by omega)]
                          · rw [if_neg h2, if_neg (by omega)]
                      go_roundg (s.size + 1 - (m + 1 + 1))
                      case measure => omega
                      case rel => exact ⟨m + 1 + 1, by omega, by go_num, HRE.out, HG7.out, HA7.out, HB7.out, Nat.le_refl _⟩
                    | true =>
                      rw [hmm] at HV
                      cases hni : advF x s g m with
                      | true =>
                        rw [hni] at HV
                        have HVE : Hid (advF x s g (m + 1) = true) := by
                          show _ = _
                          rw [HV.out]
                          exact Bool.or_true _
                        refine wp_region_at 28 #[false, false, false, false, false, false, false, false, false, false, false, false, false, false, false, false, false, false, false, false, false, false, false, false, false, false, false, false] rfl rfl (by kernel_rfl) ?_
                        refine wpAny_at (i := 0) (v := .int .i64 ((m : Int) + 1)) (some 51) rfl rfl (by kernel_rfl) (by kernel_rfl) (by kernel_rfl) (fun _ _ _ h => h) (by kernel_rfl) (fun _ => ex_move _ _ rfl (by kernel_rfl)) ?_
                        simp only [Act.put, List.setIfInBounds_toArray, List.set_cons_zero, List.set_cons_succ]
                        refine wpAny_at (i := 1) (v := .bool true) (some 52) rfl rfl (by kernel_rfl) (by kernel_rfl) (by kernel_rfl) (fun _ _ _ h => h) (by kernel_rfl) (fun _ => ex_binOp .gtr 3 _ _ _ (.int .i64 ((m : Int) + 1)) (.int .i64 0) _ rfl (by kernel_rfl) (by kernel_rfl) (HGT.out _)) ?_
                        simp only [Act.put, List.setIfInBounds_toArray, List.set_cons_zero, List.set_cons_succ]
                        refine wpAny_at (i := 2) (v := .bool true) (some 53) rfl rfl (by kernel_rfl) (by kernel_rfl) (by kernel_rfl) (fun _ _ _ h => h) (by kernel_rfl) (fun _ => ex_move _ _ rfl (by kernel_rfl)) ?_
                        simp only [Act.put, List.setIfInBounds_toArray, List.set_cons_zero, List.set_cons_succ]
                        refine wpAny_at (i := 4) (v := .string s) (some 55) rfl rfl (by kernel_rfl) (by kernel_rfl) (by kernel_rfl) (fun _ _ _ h => h) (by kernel_rfl) (fun _ => ex_move _ _ rfl (by kernel_rfl)) ?_
                        simp only [Act.put, List.setIfInBounds_toArray, List.set_cons_zero, List.set_cons_succ]
                        refine wpAny_at (i := 5) (v := .int .i64 ((m : Int) + 1)) (some 56) rfl rfl (by kernel_rfl) (by kernel_rfl) (by kernel_rfl) (fun _ _ _ h => h) (by kernel_rfl) (fun _ => ex_move _ _ rfl (by kernel_rfl)) ?_
                        simp only [Act.put, List.setIfInBounds_toArray, List.set_cons_zero, List.set_cons_succ]
                        refine wpAny_at (i := 6) (v := .int .i64 m) (some 57) rfl rfl (by kernel_rfl) (by kernel_rfl) (by kernel_rfl) (fun _ _ _ h => h) (by kernel_rfl) (fun _ => ex_binOp .sub 3 _ _ _ (.int .i64 ((m : Int) + 1)) (.int .i64 1) _ rfl (by kernel_rfl) (by kernel_rfl) (HSB.out _)) ?_
                        simp only [Act.put, List.setIfInBounds_toArray, List.set_cons_zero, List.set_cons_succ]
                        refine wpAny_at (i := 7) (v := .int .u8 (s[m].toNat)) (some 58) rfl rfl (by kernel_rfl) (by kernel_rfl) (by kernel_rfl) (fun _ _ _ h => h) (by kernel_rfl) (fun _ => ex_index 9 _ _ (.string s) (.int .i64 m) _ rfl (by kernel_rfl) (by kernel_rfl) (HIX.out _)) ?_
                        simp only [Act.put, List.setIfInBounds_toArray, List.set_cons_zero, List.set_cons_succ]
                        refine wpAny_val 3 (some 54) (.agg (atC x).toArray) (by kernel_rfl) rfl rfl (by kernel_rfl) (ex_load 26 _ (.pointer (some ⟨q, 0, none⟩)) _ rfl (by kernel_rfl) (HLD.out)) ?_
                        simp only [Act.put, List.setIfInBounds_toArray, List.set_cons_zero, List.set_cons_succ]
                        refine wpAny_call 8 (some 59) (by kernel_rfl) rfl rfl (by kernel_rfl) 82 (#[.agg (atC x).toArray, .int .u8 (s[m].toNat)]) (by go_simp) (HC.out _) ?_
                        rintro e w7 ⟨rfl, hb7⟩
                        refine ⟨_, rfl, ?_⟩
                        have qa := (HG4.out.of_block (hb7.block _ HG4.out.lt)).cell (i := m) (by omega)
                        have qn := (HR4.out.of_block (hb7.block _ HR4.out.lt)).cell (i := m) (by omega)
                        have qy := (HA4.out.keep (hb7.block _ hq4)).many
                        rw [if_neg (by omega), if_pos (by omega)] at qn
                        rw [hfi] at qa
                        rw [hmm] at qy
                        rw [hni] at qn
                        have rf7 := (HR4.out.of_block (hb7.block _ HR4.out.lt)).frozen (m + 1)
                        have r7 := (HR4.out.of_block (hb7.block _ HR4.out.lt)).cell (i := m + 1) hil
                        rw [if_pos rfl] at r7
                        change wpAny _ _ _ _ _ _ (Act.put _ (some 59) _) _
                        simp only [Act.put, List.setIfInBounds_toArray, List.set_cons_zero, List.set_cons_succ]
                        refine wpAny_at (i := 9) (v := .bool true) (some 60) rfl rfl (by kernel_rfl) (by kernel_rfl) (by kernel_rfl) (fun _ _ _ h => h) (by kernel_rfl) (fun _ => ex_pick _ _ _ true (.bool true) (.bool false) rfl (by kernel_rfl) (by kernel_rfl) (by kernel_rfl)) ?_
                        simp only [Act.put, List.setIfInBounds_toArray, List.set_cons_zero, List.set_cons_succ]
                        refine wpAny_at (i := 10) (v := .bool true) (some 61) rfl rfl (by kernel_rfl) (by kernel_rfl) (by kernel_rfl) (fun _ _ _ h => h) (by kernel_rfl) (fun _ => ex_move _ _ rfl (by kernel_rfl)) ?_
                        simp only [Act.put, List.setIfInBounds_toArray, List.set_cons_zero, List.set_cons_succ]
                        refine wpAny_at (i := 11) (v := .slice (some ⟨b, 0, none⟩) (s.size + 1) (s.size + 1)) (some 62) rfl rfl (by kernel_rfl) (by kernel_rfl) (by kernel_rfl) (fun _ _ _ h => h) (by kernel_rfl) (fun _ => ex_move _ _ rfl (by kernel_rfl)) ?_
                        simp only [Act.put, List.setIfInBounds_toArray, List.set_cons_zero, List.set_cons_succ]
                        refine wpAny_at (i := 12) (v := .int .i64 ((m : Int) + 1)) (some 63) rfl rfl (by kernel_rfl) (by kernel_rfl) (by kernel_rfl) (fun _ _ _ h => h) (by kernel_rfl) (fun _ => ex_move _ _ rfl (by kernel_rfl)) ?_
                        simp only [Act.put, List.setIfInBounds_toArray, List.set_cons_zero, List.set_cons_succ]
                        refine wpAny_at (i := 13) (v := .int .i64 m) (some 64) rfl rfl (by kernel_rfl) (by kernel_rfl) (by kernel_rfl) (fun _ _ _ h => h) (by kernel_rfl) (fun _ => ex_binOp .sub 3 _ _ _ (.int .i64 ((m : Int) + 1)) (.int .i64 1) _ rfl (by kernel_rfl) (by kernel_rfl) (HSB.out _)) ?_
                        simp only [Act.put, List.setIfInBounds_toArray, List.set_cons_zero, List.set_cons_succ]
                        refine wpAny_at (i := 14) (v := .pointer (some ⟨b, m, none⟩)) (some 65) rfl rfl (by kernel_rfl) (by kernel_rfl) (by kernel_rfl) (fun _ _ _ h => h) (by kernel_rfl) (fun _ => ex_indexAddr 86 _ _ (.slice (some ⟨b, 0, none⟩) (s.size + 1) (s.size + 1)) (.int .i64 m) _ rfl (by kernel_rfl) (by kernel_rfl) (HIB.out _)) ?_
                        simp only [Act.put, List.setIfInBounds_toArray, List.set_cons_zero, List.set_cons_succ]
                        refine wpAny_val 15 (some 66) (.bool false) (by kernel_rfl) rfl rfl (by kernel_rfl) (ex_load 4 _ (.pointer (some ⟨b, m, none⟩)) _ rfl (by kernel_rfl) (by go_simp)) ?_
                        simp only [Act.put, List.setIfInBounds_toArray, List.set_cons_zero, List.set_cons_succ]
                        refine wpAny_at (i := 16) (v := .bool false) (some 67) rfl rfl (by kernel_rfl) (by kernel_rfl) (by kernel_rfl) (fun _ _ _ h => h) (by kernel_rfl) (fun _ => ex_move _ _ rfl (by kernel_rfl)) ?_
                        simp only [Act.put, List.setIfInBounds_toArray, List.set_cons_zero, List.set_cons_succ]
                        refine wpAny_at (i := 17) (v := .pointer (some ⟨q, 33, none⟩)) (some 68) rfl rfl (by kernel_rfl) (by kernel_rfl) (by kernel_rfl) (fun _ _ _ h => h) (by kernel_rfl) (fun _ => ex_fieldAddr 26 _ 2 (.pointer (some ⟨q, 0, none⟩)) _ rfl (by kernel_rfl) (by go_simp)) ?_
                        simp only [Act.put, List.setIfInBounds_toArray, List.set_cons_zero, List.set_cons_succ]
                        refine wpAny_val 18 (some 69) (.bool true) (by kernel_rfl) rfl rfl (by kernel_rfl) (ex_load 4 _ (.pointer (some ⟨q, 33, none⟩)) _ rfl (by kernel_rfl) (by go_simp)) ?_
                        simp only [Act.put, List.setIfInBounds_toArray, List.set_cons_zero, List.set_cons_succ]
                        refine wpAny_at (i := 19) (v := .bool true) (some 70) rfl rfl (by kernel_rfl) (by kernel_rfl) (by kernel_rfl) (fun _ _ _ h => h) (by kernel_rfl) (fun _ => ex_move _ _ rfl (by kernel_rfl)) ?_
                        simp only [Act.put, List.setIfInBounds_toArray, List.set_cons_zero, List.set_cons_succ]
                        refine wpAny_at (i := 20) (v := .slice (some ⟨N, 0, none⟩) (s.size + 1) (s.size + 1)) (some 71) rfl rfl (by kernel_rfl) (by kernel_rfl) (by kernel_rfl) (fun _ _ _ h => h) (by kernel_rfl) (fun _ => ex_move _ _ rfl (by kernel_rfl)) ?_
                        simp only [Act.put, List.setIfInBounds_toArray, List.set_cons_zero, List.set_cons_succ]
                        refine wpAny_at (i := 21) (v := .int .i64 ((m : Int) + 1)) (some 72) rfl rfl (by kernel_rfl) (by kernel_rfl) (by kernel_rfl) (fun _ _ _ h => h) (by kernel_rfl) (fun _ => ex_move _ _ rfl (by kernel_rfl)) ?_
                        simp only [Act.put, List.setIfInBounds_toArray, List.set_cons_zero, List.set_cons_succ]
                        refine wpAny_at (i := 22) (v := .int .i64 m) (some 73) rfl rfl (by kernel_rfl) (by kernel_rfl) (by kernel_rfl) (fun _ _ _ h => h) (by kernel_rfl) (fun _ => ex_binOp .sub 3 _ _ _ (.int .i64 ((m : Int) + 1)) (.int .i64 1) _ rfl (by kernel_rfl) (by kernel_rfl) (HSB.out _)) ?_
                        simp only [Act.put, List.setIfInBounds_toArray, List.set_cons_zero, List.set_cons_succ]
                        refine wpAny_at (i := 23) (v := .pointer (some ⟨N, m, none⟩)) (some 74) rfl rfl (by kernel_rfl) (by kernel_rfl) (by kernel_rfl) (fun _ _ _ h => h) (by kernel_rfl) (fun _ => ex_indexAddr 86 _ _ (.slice (some ⟨N, 0, none⟩) (s.size + 1) (s.size + 1)) (.int .i64 m) _ rfl (by kernel_rfl) (by kernel_rfl) (HIN.out _)) ?_
                        simp only [Act.put, List.setIfInBounds_toArray, List.set_cons_zero, List.set_cons_succ]
                        refine wpAny_val 24 (some 75) (.bool true) (by kernel_rfl) rfl rfl (by kernel_rfl) (ex_load 4 _ (.pointer (some ⟨N, m, none⟩)) _ rfl (by kernel_rfl) (by go_simp)) ?_
                        simp only [Act.put, List.setIfInBounds_toArray, List.set_cons_zero, List.set_cons_succ]
                        refine wpAny_at (i := 25) (v := .bool true) (some 76) rfl rfl (by kernel_rfl) (by kernel_rfl) (by kernel_rfl) (fun _ _ _ h => h) (by kernel_rfl) (fun _ => ex_pick _ _ _ true (.bool true) (.bool false) rfl (by kernel_rfl) (by kernel_rfl) (by kernel_rfl)) ?_
                        simp only [Act.put, List.setIfInBounds_toArray, List.set_cons_zero, List.set_cons_succ]
                        refine wpAny_at (i := 26) (v := .bool true) (some 77) rfl rfl (by kernel_rfl) (by kernel_rfl) (by kernel_rfl) (fun _ _ _ h => h) (by kernel_rfl) (fun _ => ex_pick _ _ _ false (.bool true) (.bool true) rfl (by kernel_rfl) (by kernel_rfl) (by kernel_rfl)) ?_
                        simp only [Act.put, List.setIfInBounds_toArray, List.set_cons_zero, List.set_cons_succ]
                        refine wpAny_at (i := 27) (v := .bool true) (some 78) rfl rfl (by kernel_rfl) (by kernel_rfl) (by kernel_rfl) (fun _ _ _ h => h) (by kernel_rfl) (fun _ => ex_pick _ _ _ true (.bool true) (.bool false) rfl (by kernel_rfl) (by kernel_rfl) (by kernel_rfl)) ?_
                        simp only [Act.put, List.setIfInBounds_toArray, List.set_cons_zero, List.set_cons_succ]
                        refine wpAny_done (by kernel_rfl) ?_ _
                        go_wp2_with fail
                        have HR7 := Lib.hid (HR4.out.of_block (hb7.block _ HR4.out.lt))
                        have HG7 := Lib.hid (HG4.out.of_block (hb7.block _ HG4.out.lt))
                        have HA7 := Lib.hid (HA4.out.keep (hb7.block _ hq4))
                        have HB7 := Lib.hid (HB4.out.trans (hb7.mono HB4.out.size))
                        have HRE : Hid ((w7.setCell ⟨N, m + 1, none⟩ (.bool true)).rowIs N 4 (s.size + 1) (fun j => .bool (if j < m + 1 + 1 then advF x s g j else false))) := (HR7.out.set (m + 1) (.bool true)).congr fun j hj => by
                          by_cases h : j = m + 1
                          · rw [if_pos h, if_pos (by omega), h, HVE.out]
                          · rw [if_neg h, if_neg h]
                            by_cases h2 : j < m + 1
                            · rw [if_pos h2, if_pos (by omega)]
                            · rw [if_neg h2, if_neg (by omega)]
                        go_roundg (s.size + 1 - (m + 1 + 1))
                        case measure => omega
                        case rel => exact ⟨m + 1 + 1, by omega, by go_num, HRE.out, HG7.out.of_block (Below.heap_setCell _ _ _ _ (show b ≠ N by omega)), HA7.out.keep (Below.heap_setCell _ _ _ _ (show q ≠ N by omega)), HB7.out.setCell (p := ⟨N, m + 1, none⟩) (show w.heap.size ≤ N by omega) _, Nat.le_refl _⟩
                      | false =>
                        rw [hni] at HV
                        have HVE : Hid (advF x s g (m + 1) = gi) := by
                          show _ = _
                          rw [HV.out]
                          exact Bool.or_false _
                        refine wp_region_at 28 #[false, false, false, false, false, false, false, false, false, false, false, false, false, false, false, false, false, false, false, false, false, false, false, false, false, false, false, false] rfl rfl (by kernel_rfl) ?_
                        refine wpAny_at (i := 0) (v := .int .i64 ((m : Int) + 1)) (some 51) rfl rfl (by kernel_rfl) (by kernel_rfl) (by kernel_rfl) (fun _ _ _ h => h) (by kernel_rfl) (fun _ => ex_move _ _ rfl (by kernel_rfl)) ?_
                        simp only [Act.put, List.setIfInBounds_toArray, List.set_cons_zero, List.set_cons_succ]
                        refine wpAny_at (i := 1) (v := .bool true) (some 52) rfl rfl (by kernel_rfl) (by kernel_rfl) (by kernel_rfl) (fun _ _ _ h => h) (by kernel_rfl) (fun _ => ex_binOp .gtr 3 _ _ _ (.int .i64 ((m : Int) + 1)) (.int .i64 0) _ rfl (by kernel_rfl) (by kernel_rfl) (HGT.out _)) ?_
                        simp only [Act.put, List.setIfInBounds_toArray, List.set_cons_zero, List.set_cons_succ]
                        refine wpAny_at (i := 2) (v := .bool true) (some 53) rfl rfl (by kernel_rfl) (by kernel_rfl) (by kernel_rfl) (fun _ _ _ h => h) (by kernel_rfl) (fun _ => ex_move _ _ rfl (by kernel_rfl)) ?_
                        simp only [Act.put, List.setIfInBounds_toArray, List.set_cons_zero, List.set_cons_succ]
                        refine wpAny_at (i := 4) (v := .string s) (some 55) rfl rfl (by kernel_rfl) (by kernel_rfl) (by kernel_rfl) (fun _ _ _ h => h) (by kernel_rfl) (fun _ => ex_move _ _ rfl (by kernel_rfl)) ?_
                        simp only [Act.put, List.setIfInBounds_toArray, List.set_cons_zero, List.set_cons_succ]
                        refine wpAny_at (i := 5) (v := .int .i64 ((m : Int) + 1)) (some 56) rfl rfl (by kernel_rfl) (by kernel_rfl) (by kernel_rfl) (fun _ _ _ h => h) (by kernel_rfl) (fun _ => ex_move _ _ rfl (by kernel_rfl)) ?_
                        simp only [Act.put, List.setIfInBounds_toArray, List.set_cons_zero, List.set_cons_succ]
                        refine wpAny_at (i := 6) (v := .int .i64 m) (some 57) rfl rfl (by kernel_rfl) (by kernel_rfl) (by kernel_rfl) (fun _ _ _ h => h) (by kernel_rfl) (fun _ => ex_binOp .sub 3 _ _ _ (.int .i64 ((m : Int) + 1)) (.int .i64 1) _ rfl (by kernel_rfl) (by kernel_rfl) (HSB.out _)) ?_
                        simp only [Act.put, List.setIfInBounds_toArray, List.set_cons_zero, List.set_cons_succ]
                        refine wpAny_at (i := 7) (v := .int .u8 (s[m].toNat)) (some 58) rfl rfl (by kernel_rfl) (by kernel_rfl) (by kernel_rfl) (fun _ _ _ h => h) (by kernel_rfl) (fun _ => ex_index 9 _ _ (.string s) (.int .i64 m) _ rfl (by kernel_rfl) (by kernel_rfl) (HIX.out _)) ?_
                        simp only [Act.put, List.setIfInBounds_toArray, List.set_cons_zero, List.set_cons_succ]
                        refine wpAny_val 3 (some 54) (.agg (atC x).toArray) (by kernel_rfl) rfl rfl (by kernel_rfl) (ex_load 26 _ (.pointer (some ⟨q, 0, none⟩)) _ rfl (by kernel_rfl) (HLD.out)) ?_
                        simp only [Act.put, List.setIfInBounds_toArray, List.set_cons_zero, List.set_cons_succ]
                        refine wpAny_call 8 (some 59) (by kernel_rfl) rfl rfl (by kernel_rfl) 82 (#[.agg (atC x).toArray, .int .u8 (s[m].toNat)]) (by go_simp) (HC.out _) ?_
                        rintro e w7 ⟨rfl, hb7⟩
                        refine ⟨_, rfl, ?_⟩
                        have qa := (HG4.out.of_block (hb7.block _ HG4.out.lt)).cell (i := m) (by omega)
                        have qn := (HR4.out.of_block (hb7.block _ HR4.out.lt)).cell (i := m) (by omega)
                        have qy := (HA4.out.keep (hb7.block _ hq4)).many
                        rw [if_neg (by omega), if_pos (by omega)] at qn
                        rw [hfi] at qa
                        rw [hmm] at qy
                        rw [hni] at qn
                        have rf7 := (HR4.out.of_block (hb7.block _ HR4.out.lt)).frozen (m + 1)
                        have r7 := (HR4.out.of_block (hb7.block _ HR4.out.lt)).cell (i := m + 1) hil
                        rw [if_pos rfl] at r7
                        change wpAny _ _ _ _ _ _ (Act.put _ (some 59) _) _
                        simp only [Act.put, List.setIfInBounds_toArray, List.set_cons_zero, List.set_cons_succ]
                        refine wpAny_at (i := 9) (v := .bool true) (some 60) rfl rfl (by kernel_rfl) (by kernel_rfl) (by kernel_rfl) (fun _ _ _ h => h) (by kernel_rfl) (fun _ => ex_pick _ _ _ true (.bool true) (.bool false) rfl (by kernel_rfl) (by kernel_rfl) (by kernel_rfl)) ?_
                        simp only [Act.put, List.setIfInBounds_toArray, List.set_cons_zero, List.set_cons_succ]
                        refine wpAny_at (i := 10) (v := .bool true) (some 61) rfl rfl (by kernel_rfl) (by kernel_rfl) (by kernel_rfl) (fun _ _ _ h => h) (by kernel_rfl) (fun _ => ex_move _ _ rfl (by kernel_rfl)) ?_
                        simp only [Act.put, List.setIfInBounds_toArray, List.set_cons_zero, List.set_cons_succ]
                        refine wpAny_at (i := 11) (v := .slice (some ⟨b, 0, none⟩) (s.size + 1) (s.size + 1)) (some 62) rfl rfl (by kernel_rfl) (by kernel_rfl) (by kernel_rfl) (fun _ _ _ h => h) (by kernel_rfl) (fun _ => ex_move _ _ rfl (by kernel_rfl)) ?_
                        simp only [Act.put, List.setIfInBounds_toArray, List.set_cons_zero, List.set_cons_succ]
                        refine wpAny_at (i := 12) (v := .int .i64 ((m : Int) + 1)) (some 63) rfl rfl (by kernel_rfl) (by kernel_rfl) (by kernel_rfl) (fun _ _ _ h => h) (by kernel_rfl) (fun _ => ex_move _ _ rfl (by kernel_rfl)) ?_
                        simp only [Act.put, List.setIfInBounds_toArray, List.set_cons_zero, List.set_cons_succ]
                        refine wpAny_at (i := 13) (v := .int .i64 m) (some 64) rfl rfl (by kernel_rfl) (by kernel_rfl) (by kernel_rfl) (fun _ _ _ h => h) (by kernel_rfl) (fun _ => ex_binOp .sub 3 _ _ _ (.int .i64 ((m : Int) + 1)) (.int .i64 1) _ rfl (by kernel_rfl) (by kernel_rfl) (HSB.out _)) ?_
                        simp only [Act.put, List.setIfInBounds_toArray, List.set_cons_zero, List.set_cons_succ]
                        refine wpAny_at (i := 14) (v := .pointer (some ⟨b, m, none⟩)) (some 65) rfl rfl (by kernel_rfl) (by kernel_rfl) (by kernel_rfl) (fun _ _ _ h => h) (by kernel_rfl) (fun _ => ex_indexAddr 86 _ _ (.slice (some ⟨b, 0, none⟩) (s.size + 1) (s.size + 1)) (.int .i64 m) _ rfl (by kernel_rfl) (by kernel_rfl) (HIB.out _)) ?_
                        simp only [Act.put, List.setIfInBounds_toArray, List.set_cons_zero, List.set_cons_succ]
                        refine wpAny_val 15 (some 66) (.bool false) (by kernel_rfl) rfl rfl (by kernel_rfl) (ex_load 4 _ (.pointer (some ⟨b, m, none⟩)) _ rfl (by kernel_rfl) (by go_simp)) ?_
                        simp only [Act.put, List.setIfInBounds_toArray, List.set_cons_zero, List.set_cons_succ]
                        refine wpAny_at (i := 16) (v := .bool false) (some 67) rfl rfl (by kernel_rfl) (by kernel_rfl) (by kernel_rfl) (fun _ _ _ h => h) (by kernel_rfl) (fun _ => ex_move _ _ rfl (by kernel_rfl)) ?_
                        simp only [Act.put, List.setIfInBounds_toArray, List.set_cons_zero, List.set_cons_succ]
                        refine wpAny_at (i := 17) (v := .pointer (some ⟨q, 33, none⟩)) (some 68) rfl rfl (by kernel_rfl) (by kernel_rfl) (by kernel_rfl) (fun _ _ _ h => h) (by kernel_rfl) (fun _ => ex_fieldAddr 26 _ 2 (.pointer (some ⟨q, 0, none⟩)) _ rfl (by kernel_rfl) (by go_simp)) ?_
                        simp only [Act.put, List.setIfInBounds_toArray, List.set_cons_zero, List.set_cons_succ]
                        refine wpAny_val 18 (some 69) (.bool true) (by kernel_rfl) rfl rfl (by kernel_rfl) (ex_load 4 _ (.pointer (some ⟨q, 33, none⟩)) _ rfl (by kernel_rfl) (by go_simp)) ?_
                        simp only [Act.put, List.setIfInBounds_toArray, List.set_cons_zero, List.set_cons_succ]
                        refine wpAny_at (i := 19) (v := .bool true) (some 70) rfl rfl (by kernel_rfl) (by kernel_rfl) (by kernel_rfl) (fun _ _ _ h => h) (by kernel_rfl) (fun _ => ex_move _ _ rfl (by kernel_rfl)) ?_
                        simp only [Act.put, List.setIfInBounds_toArray, List.set_cons_zero, List.set_cons_succ]
                        refine wpAny_at (i := 20) (v := .slice (some ⟨N, 0, none⟩) (s.size + 1) (s.size + 1)) (some 71) rfl rfl (by kernel_rfl) (by kernel_rfl) (by kernel_rfl) (fun _ _ _ h => h) (by kernel_rfl) (fun _ => ex_move _ _ rfl (by kernel_rfl)) ?_
                        simp only [Act.put, List.setIfInBounds_toArray, List.set_cons_zero, List.set_cons_succ]
                        refine wpAny_at (i := 21) (v := .int .i64 ((m : Int) + 1)) (some 72) rfl rfl (by kernel_rfl) (by kernel_rfl) (by kernel_rfl) (fun _ _ _ h => h) (by kernel_rfl) (fun _ => ex_move _ _ rfl (by kernel_rfl)) ?_
                        simp only [Act.put, List.setIfInBounds_toArray, List.set_cons_zero, List.set_cons_succ]
                        refine wpAny_at (i := 22) (v := .int .i64 m) (some 73) rfl rfl (by kernel_rfl) (by kernel_rfl) (by kernel_rfl) (fun _ _ _ h => h) (by kernel_rfl) (fun _ => ex_binOp .sub 3 _ _ _ (.int .i64 ((m : Int) + 1)) (.int .i64 1) _ rfl (by kernel_rfl) (by kernel_rfl) (HSB.out _)) ?_
                        simp only [Act.put, List.setIfInBounds_toArray, List.set_cons_zero, List.set_cons_succ]
                        refine wpAny_at (i := 23) (v := .pointer (some ⟨N, m, none⟩)) (some 74) rfl rfl (by kernel_rfl) (by kernel_rfl) (by kernel_rfl) (fun _ _ _ h => h) (by kernel_rfl) (fun _ => ex_indexAddr 86 _ _ (.slice (some ⟨N, 0, none⟩) (s.size + 1) (s.size + 1)) (.int .i64 m) _ rfl (by kernel_rfl) (by kernel_rfl) (HIN.out _)) ?_
                        simp only [Act.put, List.setIfInBounds_toArray, List.set_cons_zero, List.set_cons_succ]
                        refine wpAny_val 24 (some 75) (.bool false) (by kernel_rfl) rfl rfl (by kernel_rfl) (ex_load 4 _ (.pointer (some ⟨N, m, none⟩)) _ rfl (by kernel_rfl) (by go_simp)) ?_
                        simp only [Act.put, List.setIfInBounds_toArray, List.set_cons_zero, List.set_cons_succ]
                        refine wpAny_at (i := 25) (v := .bool false) (some 76) rfl rfl (by kernel_rfl) (by kernel_rfl) (by kernel_rfl) (fun _ _ _ h => h) (by kernel_rfl) (fun _ => ex_pick _ _ _ true (.bool false) (.bool false) rfl (by kernel_rfl) (by kernel_rfl) (by kernel_rfl)) ?_
                        simp only [Act.put, List.setIfInBounds_toArray, List.set_cons_zero, List.set_cons_succ]
                        refine wpAny_at (i := 26) (v := .bool false) (some 77) rfl rfl (by kernel_rfl) (by kernel_rfl) (by kernel_rfl) (fun _ _ _ h => h) (by kernel_rfl) (fun _ => ex_pick _ _ _ false (.bool true) (.bool false) rfl (by kernel_rfl) (by kernel_rfl) (by kernel_rfl)) ?_
                        simp only [Act.put, List.setIfInBounds_toArray, List.set_cons_zero, List.set_cons_succ]
                        refine wpAny_at (i := 27) (v := .bool false) (some 78) rfl rfl (by kernel_rfl) (by kernel_rfl) (by kernel_rfl) (fun _ _ _ h => h) (by kernel_rfl) (fun _ => ex_pick _ _ _ true (.bool false) (.bool false) rfl (by kernel_rfl) (by kernel_rfl) (by kernel_rfl)) ?_
                        simp only [Act.put, List.setIfInBounds_toArray, List.set_cons_zero, List.set_cons_succ]
                        refine wpAny_done (by kernel_rfl) ?_ _
                        go_wp2_with fail
                        have HR7 := Lib.hid (HR4.out.of_block (hb7.block _ HR4.out.lt))
                        have HG7 := Lib.hid (HG4.out.of_block (hb7.block _ HG4.out.lt))
                        have HA7 := Lib.hid (HA4.out.keep (hb7.block _ hq4))
                        have HB7 := Lib.hid (HB4.out.trans (hb7.mono HB4.out.size))
                        have HRE : Hid (w7.rowIs N 4 (s.size + 1) (fun j => .bool (if j < m + 1 + 1 then advF x s g j else false))) := HR7.out.congr fun j hj => by
                          by_cases h : j = m + 1
                          · rw [if_pos h, if_pos (by omega), h, HVE.out]
                          · rw [if_neg h]
                            by_cases h2 : j < m + 1
                            · rw [if_pos h2, if_pos (by omega)]
                            · rw [if_neg h2, if_neg (by omega)]
                        go_roundg (s.size + 1 - (m + 1 + 1))
                        case measure => omega
                        case rel => exact ⟨m + 1 + 1, by omega, by go_num, HRE.out, HG7.out, HA7.out, HB7.out, Nat.le_refl _⟩
            · have HBI : Hid ((decide (x.mn < 1) && g i) = false) := by show _ = _; rw [decide_eq_false hm]; rfl
              have HR1 : Hid ((wr.setCell ⟨N, i, none⟩ (.bool false)).rowIs N 4 (s.size + 1) (fun j => .bool (if j = i then false else if j < i then advF x s g j else false))) := (HR.out.set i (.bool false)).congr fun j hj => by
                by_cases h : j = i
                · rw [if_pos h, if_pos h]
                · rw [if_neg h, if_neg h]
              have HG1 := Lib.hid (HG.out.of_block (w' := (wr.setCell ⟨N, i, none⟩ (.bool false))) (Below.heap_setCell _ _ _ _ (show b ≠ N by omega)))
              have HA1 : Hid (AtIn (wr.setCell ⟨N, i, none⟩ (.bool false)) q x) := HA.out.keep (Below.heap_setCell _ _ _ _ (show q ≠ N by omega))
              have HB1 : Hid (Below w.heap.size w (wr.setCell ⟨N, i, none⟩ (.bool false))) := HB.out.setCell (p := ⟨N, i, none⟩) (show w.heap.size ≤ N by omega) _
              have hN4 : N < (wr.setCell ⟨N, i, none⟩ (.bool false)).heap.size := HR1.out.lt
              go_upto_region 15 with fail
              clear HR HG HA HB qm qg r0 rf hgi
              generalize (wr.setCell ⟨N, i, none⟩ (.bool false)) = w4 at HR1 HG1 HA1 HB1 hN4 ⊢
              rcases i with _ | m
              · have HVE : Hid (advF x s g 0 = false) := by show _ = _; rw [adv_zero, HBI.out]
                refine wp_region_at 28 #[false, false, false, false, false, false, false, false, false, false, false, false, false, false, false, false, false, false, false, false, false, false, false, false, false, false, false, false] rfl rfl (by kernel_rfl) ?_
                refine wpAny_at (i := 0) (v := .int .i64 0) (some 51) rfl rfl (by kernel_rfl) (by kernel_rfl) (by kernel_rfl) (fun _ _ _ h => h) (by kernel_rfl) (fun _ => ex_move _ _ rfl (by kernel_rfl)) ?_
                simp only [Act.put, List.setIfInBounds_toArray, List.set_cons_zero, List.set_cons_succ]
                refine wpAny_at (i := 1) (v := .bool false) (some 52) rfl rfl (by kernel_rfl) (by kernel_rfl) (by kernel_rfl) (fun _ _ _ h => h) (by kernel_rfl) (fun _ => ex_binOp .gtr 3 _ _ _ (.int .i64 0) (.int .i64 0) _ rfl (by kernel_rfl) (by kernel_rfl) (by go_simp)) ?_
                simp only [Act.put, List.setIfInBounds_toArray, List.set_cons_zero, List.set_cons_succ]
                refine wpAny_at (i := 2) (v := .bool false) (some 53) rfl rfl (by kernel_rfl) (by kernel_rfl) (by kernel_rfl) (fun _ _ _ h => h) (by kernel_rfl) (fun _ => ex_move _ _ rfl (by kernel_rfl)) ?_
                simp only [Act.put, List.setIfInBounds_toArray, List.set_cons_zero, List.set_cons_succ]
                refine wpAny_skip 3 (some 54) rfl rfl (by kernel_rfl) (by kernel_rfl) (by kernel_rfl) (fun _ _ _ h => h) (by kernel_rfl) ?_
                simp only [Act.put, List.setIfInBounds_toArray, List.set_cons_zero, List.set_cons_succ]
                refine wpAny_skip 4 (some 55) rfl rfl (by kernel_rfl) (by kernel_rfl) (by kernel_rfl) (fun _ _ _ h => h) (by kernel_rfl) ?_
                simp only [Act.put, List.setIfInBounds_toArray, List.set_cons_zero, List.set_cons_succ]
                refine wpAny_skip 5 (some 56) rfl rfl (by kernel_rfl) (by kernel_rfl) (by kernel_rfl) (fun _ _ _ h => h) (by kernel_rfl) ?_
                simp only [Act.put, List.setIfInBounds_toArray, List.set_cons_zero, List.set_cons_succ]
                refine wpAny_skip 6 (some 57) rfl rfl (by kernel_rfl) (by kernel_rfl) (by kernel_rfl) (fun _ _ _ h => h) (by kernel_rfl) ?_
                simp only [Act.put, List.setIfInBounds_toArray, List.set_cons_zero, List.set_cons_succ]
                refine wpAny_skip 7 (some 58) rfl rfl (by kernel_rfl) (by kernel_rfl) (by kernel_rfl) (fun _ _ _ h => h) (by kernel_rfl) ?_
                simp only [Act.put, List.setIfInBounds_toArray, List.set_cons_zero, List.set_cons_succ]
                refine wpAny_skip 8 (some 59) rfl rfl (by kernel_rfl) (by kernel_rfl) (by kernel_rfl) (fun _ _ _ h => h) (by kernel_rfl) ?_
                simp only [Act.put, List.setIfInBounds_toArray, List.set_cons_zero, List.set_cons_succ]
                refine wpAny_at (i := 9) (v := .bool false) (some 60) rfl rfl (by kernel_rfl) (by kernel_rfl) (by kernel_rfl) (fun _ _ _ h => h) (by kernel_rfl) (fun _ => ex_pick _ _ _ false (undef) (.bool false) rfl (by kernel_rfl) (by kernel_rfl) (by kernel_rfl)) ?_
                simp only [Act.put, List.setIfInBounds_toArray, List.set_cons_zero, List.set_cons_succ]
                refine wpAny_at (i := 10) (v := .bool false) (some 61) rfl rfl (by kernel_rfl) (by kernel_rfl) (by kernel_rfl) (fun _ _ _ h => h) (by kernel_rfl) (fun _ => ex_move _ _ rfl (by kernel_rfl)) ?_
                simp only [Act.put, List.setIfInBounds_toArray, List.set_cons_zero, List.set_cons_succ]
                refine wpAny_skip 11 (some 62) rfl rfl (by kernel_rfl) (by kernel_rfl) (by kernel_rfl) (fun _ _ _ h => h) (by kernel_rfl) ?_
                simp only [Act.put, List.setIfInBounds_toArray, List.set_cons_zero, List.set_cons_succ]
                refine wpAny_skip 12 (some 63) rfl rfl (by kernel_rfl) (by kernel_rfl) (by kernel_rfl) (fun _ _ _ h => h) (by kernel_rfl) ?_
                simp only [Act.put, List.setIfInBounds_toArray, List.set_cons_zero, List.set_cons_succ]
                refine wpAny_skip 13 (some 64) rfl rfl (by kernel_rfl) (by kernel_rfl) (by kernel_rfl) (fun _ _ _ h => h) (by kernel_rfl) ?_
                simp only [Act.put, List.setIfInBounds_toArray, List.set_cons_zero, List.set_cons_succ]
                refine wpAny_skip 14 (some 65) rfl rfl (by kernel_rfl) (by kernel_rfl) (by kernel_rfl) (fun _ _ _ h => h) (by kernel_rfl) ?_
                simp only [Act.put, List.setIfInBounds_toArray, List.set_cons_zero, List.set_cons_succ]
                refine wpAny_skip 15 (some 66) rfl rfl (by kernel_rfl) (by kernel_rfl) (by kernel_rfl) (fun _ _ _ h => h) (by kernel_rfl) ?_
                simp only [Act.put, List.setIfInBounds_toArray, List.set_cons_zero, List.set_cons_succ]
                refine wpAny_skip 16 (some 67) rfl rfl (by kernel_rfl) (by kernel_rfl) (by kernel_rfl) (fun _ _ _ h => h) (by kernel_rfl) ?_
                simp only [Act.put, List.setIfInBounds_toArray, List.set_cons_zero, List.set_cons_succ]
                refine wpAny_skip 17 (some 68) rfl rfl (by kernel_rfl) (by kernel_rfl) (by kernel_rfl) (fun _ _ _ h => h) (by kernel_rfl) ?_
                simp only [Act.put, List.setIfInBounds_toArray, List.set_cons_zero, List.set_cons_succ]
                refine wpAny_skip 18 (some 69) rfl rfl (by kernel_rfl) (by kernel_rfl) (by kernel_rfl) (fun _ _ _ h => h) (by kernel_rfl) ?_
                simp only [Act.put, List.setIfInBounds_toArray, List.set_cons_zero, List.set_cons_succ]
                refine wpAny_skip 19 (some 70) rfl rfl (by kernel_rfl) (by kernel_rfl) (by kernel_rfl) (fun _ _ _ h => h) (by kernel_rfl) ?_
                simp only [Act.put, List.setIfInBounds_toArray, List.set_cons_zero, List.set_cons_succ]
                refine wpAny_skip 20 (some 71) rfl rfl (by kernel_rfl) (by kernel_rfl) (by kernel_rfl) (fun _ _ _ h => h) (by kernel_rfl) ?_
                simp only [Act.put, List.setIfInBounds_toArray, List.set_cons_zero, List.set_cons_succ]
                refine wpAny_skip 21 (some 72) rfl rfl (by kernel_rfl) (by kernel_rfl) (by kernel_rfl) (fun _ _ _ h => h) (by kernel_rfl) ?_
                simp only [Act.put, List.setIfInBounds_toArray, List.set_cons_zero, List.set_cons_succ]
                refine wpAny_skip 22 (some 73) rfl rfl (by kernel_rfl) (by kernel_rfl) (by kernel_rfl) (fun _ _ _ h => h) (by kernel_rfl) ?_
                simp only [Act.put, List.setIfInBounds_toArray, List.set_cons_zero, List.set_cons_succ]
                refine wpAny_skip 23 (some 74) rfl rfl (by kernel_rfl) (by kernel_rfl) (by kernel_rfl) (fun _ _ _ h => h) (by kernel_rfl) ?_
                simp only [Act.put, List.setIfInBounds_toArray, List.set_cons_zero, List.set_cons_succ]
                refine wpAny_skip 24 (some 75) rfl rfl (by kernel_rfl) (by kernel_rfl) (by kernel_rfl) (fun _ _ _ h => h) (by kernel_rfl) ?_
                simp only [Act.put, List.setIfInBounds_toArray, List.set_cons_zero, List.set_cons_succ]
                refine wpAny_skip 25 (some 76) rfl rfl (by kernel_rfl) (by kernel_rfl) (by kernel_rfl) (fun _ _ _ h => h) (by kernel_rfl) ?_
                simp only [Act.put, List.setIfInBounds_toArray, List.set_cons_zero, List.set_cons_succ]
                refine wpAny_skip 26 (some 77) rfl rfl (by kernel_rfl) (by kernel_rfl) (by kernel_rfl) (fun _ _ _ h => h) (by kernel_rfl) ?_
                simp only [Act.put, List.setIfInBounds_toArray, List.set_cons_zero, List.set_cons_succ]
                refine wpAny_at (i := 27) (v := .bool false) (some 78) rfl rfl (by kernel_rfl) (by kernel_rfl) (by kernel_rfl) (fun _ _ _ h => h) (by kernel_rfl) (fun _ => ex_pick _ _ _ false (undef) (.bool false) rfl (by kernel_rfl) (by kernel_rfl) (by kernel_rfl)) ?_
                simp only [Act.put, List.setIfInBounds_toArray, List.set_cons_zero, List.set_cons_succ]
                refine wpAny_done (by kernel_rfl) ?_ _
                have HRE : Hid (w4.drew.rowIs N 4 (s.size + 1) (fun j => .bool (if j < 0 + 1 then advF x s g j else false))) := HR1.out.congr fun j hj => by
                  by_cases h : j = 0
                  · rw [if_pos h, if_pos (by omega), h, HVE.out]
                  · rw [if_neg h, if_neg (by omega), if_neg (by omega)]
                go_wp2_with fail
                go_roundg (s.size + 1 - (0 + 1))
                case measure => omega
                case rel => exact ⟨0 + 1, by omega, by go_num, HRE.out, HG1.out.drew, HA1.out, HB1.out.drew, Nat.le_refl _⟩
              · have hms : m < s.size := by omega
                have hmsi : (m : Int) < (s.size : Int) := by omega
                have hm0 : (0 : Int) ≤ (m : Int) := by omega
                have hc1 : ((m + 1 : Nat) : Int) = (m : Int) + 1 := by omega
                rw [hc1]
                have HLD := Lib.hid (run_loadAt_mid (P := Tryd.prog) w4.drew q 0 26 (atC x) _ (at_range HA1.out) hu rfl (by rw [hi, atC_len]))
                have HGT : Hid (∀ w, (do eqGuard .gtr 3 (.tmp 51) (.const (.int .i64 0)) (.int .i64 ((m : Int) + 1)) (.int .i64 0); Go.binOp .gtr 3 (.int .i64 ((m : Int) + 1)) (.int .i64 0) : Sem Value).run Tryd.prog w = .ok (.bool true) w) := by
                  have h1 : (0 : Int) < (m : Int) + 1 := by omega
                  show ∀ w, _ = _
                  intro w
                  go_simp
                have HSB : Hid (∀ {x y : Operand} (w : World), (do eqGuard .sub 3 x y (.int .i64 ((m : Int) + 1)) (.int .i64 1); Go.binOp .sub 3 (.int .i64 ((m : Int) + 1)) (.int .i64 1) : Sem Value).run Tryd.prog w = .ok (.int .i64 m) w) := by
                  show ∀ (x y : Operand) (w : World), _ = _
                  intro x y w
                  go_simp
                  rw [IntKind.wrap_i64]
                  omega
                have HIX : Hid (∀ w, (Instr.index 9 (.string s) (.int .i64 m)).run Tryd.prog w = .ok (.int .u8 (s[m].toNat)) w) := by
                  show ∀ w, _ = _
                  intro w
                  go_simp
                have hmi2 : (m : Int) < (s.size : Int) + 1 := by omega
                have HIB : Hid (∀ w, (Instr.indexAt 86 (.slice (some ⟨b, 0, none⟩) (s.size + 1) (s.size + 1)) (.int .i64 m)).run Tryd.prog w = .ok (.pointer (some ⟨b, m, none⟩)) w) := by
                  show ∀ w, _ = _
                  intro w
                  go_simp
                have HIN : Hid (∀ w, (Instr.indexAt 86 (.slice (some ⟨N, 0, none⟩) (s.size + 1) (s.size + 1)) (.int .i64 m)).run Tryd.prog w = .ok (.pointer (some ⟨N, m, none⟩)) w) := by
                  show ∀ w, _ = _
                  intro w
                  go_simp
                have HV : Hid (advF x s g (m + 1) = (false || (x.p (s[m].toNat) && (g m || (x.many && advF x s g m))))) := by
                  show _ = _
                  rw [adv_own, HBI.out, bt_get s m hms]
                have HC0 := Lib.hid (fun w => contains_any x (s[m].toNat) w (UInt8.toNat_lt _))
                have HR4 : Hid (w4.drew.rowIs N 4 (s.size + 1) (fun j => .bool (if j = m + 1 then false else if j < m + 1 then advF x s g j else false))) := HR1.out
                have HG4 : Hid (w4.drew.rowIs b 4 (s.size + 1) (fun j => .bool (g j))) := HG1.out
                have HA4 : Hid (AtIn w4.drew q x) := HA1.out
                have HB4 : Hid (Below w.heap.size w w4.drew) := HB1.out.drew
                have hq4 : q < w4.drew.heap.size := (Array.getElem?_eq_some_iff.1 HA1.out).1
                have hN5 : N < w4.drew.heap.size := hN4
                clear HR1 HG1 HA1 HB1 hN4
                cases hpx : x.p (s[m].toNat) with
                | false =>
                  rw [hpx] at HV
                  have HC := HC0
                  rw [hpx] at HC
                  have HVE : Hid (advF x s g (m + 1) = false) := by
                    show _ = _
                    rw [HV.out]
                    exact Bool.or_false _
                  refine wp_region_at 28 #[false, false, false, false, false, false, false, false, false, false, false, false, false, false, false, false, false, false, false, false, false, false, false, false, false, false, false, false] rfl rfl (by kernel_rfl) ?_
                  refine wpAny_at (i := 0) (v := .int .i64 ((m : Int) + 1)) (some 51) rfl rfl (by kernel_rfl) (by kernel_rfl) (by kernel_rfl) (fun _ _ _ h => h) (by kernel_rfl) (fun _ => ex_move _ _ rfl (by kernel_rfl)) ?_
                  simp only [Act.put, List.setIfInBounds_toArray, List.set_cons_zero, List.set_cons_succ]
                  refine wpAny_at (i := 1) (v := .bool true) (some 52) rfl rfl (by kernel_rfl) (by kernel_rfl) (by kernel_rfl) (fun _ _ _ h => h) (by kernel_rfl) (fun _ => ex_binOp .gtr 3 _ _ _ (.int .i64 ((m : Int) + 1)) (.int .i64 0) _ rfl (by kernel_rfl) (by kernel_rfl) (HGT.out _)) ?_
                  simp only [Act.put, List.setIfInBounds_toArray, List.set_cons_zero, List.set_cons_succ]
                  refine wpAny_at (i := 2) (v := .bool true) (some 53) rfl rfl (by kernel_rfl) (by kernel_rfl) (by kernel_rfl) (fun _ _ _ h => h) (by kernel_rfl) (fun _ => ex_move _ _ rfl (by kernel_rfl)) ?_
                  simp only [Act.put, List.setIfInBounds_toArray, List.set_cons_zero, List.set_cons_succ]
                  refine wpAny_at (i := 4) (v := .string s) (some 55) rfl rfl (by kernel_rfl) (by kernel_rfl) (by kernel_rfl) (fun _ _ _ h => h) (by kernel_rfl) (fun _ => ex_move _ _ rfl (by kernel_rfl)) ?_
                  simp only [Act.put, List.setIfInBounds_toArray, List.set_cons_zero, List.set_cons_succ]
                  refine wpAny_at (i := 5) (v := .int .i64 ((m : Int) + 1)) (some 56) rfl rfl (by kernel_rfl) (by kernel_rfl) (by kernel_rfl) (fun _ _ _ h => h) (by kernel_rfl) (fun _ => ex_move _ _ rfl (by kernel_rfl)) ?_
                  simp only [Act.put, List.setIfInBounds_toArray, List.set_cons_zero, List.set_cons_succ]
                  refine wpAny_at (i := 6) (v := .int .i64 m) (some 57) rfl rfl (by kernel_rfl) (by kernel_rfl) (by kernel_rfl) (fun _ _ _ h => h) (by kernel_rfl) (fun _ => ex_binOp .sub 3 _ _ _ (.int .i64 ((m : Int) + 1)) (.int .i64 1) _ rfl (by kernel_rfl) (by kernel_rfl) (HSB.out _)) ?_
                  simp only [Act.put, List.setIfInBounds_toArray, List.set_cons_zero, List.set_cons_succ]
                  refine wpAny_at (i := 7) (v := .int .u8 (s[m].toNat)) (some 58) rfl rfl (by kernel_rfl) (by kernel_rfl) (by kernel_rfl) (fun _ _ _ h => h) (by kernel_rfl) (fun _ => ex_index 9 _ _ (.string s) (.int .i64 m) _ rfl (by kernel_rfl) (by kernel_rfl) (HIX.out _)) ?_
                  simp only [Act.put, List.setIfInBounds_toArray, List.set_cons_zero, List.set_cons_succ]
                  refine wpAny_val 3 (some 54) (.agg (atC x).toArray) (by kernel_rfl) rfl rfl (by kernel_rfl) (ex_load 26 _ (.pointer (some ⟨q, 0, none⟩)) _ rfl (by kernel_rfl) (HLD.out)) ?_
                  simp only [Act.put, List.setIfInBounds_toArray, List.set_cons_zero, List.set_cons_succ]
                  refine wpAny_call 8 (some 59) (by kernel_rfl) rfl rfl (by kernel_rfl) 82 (#[.agg (atC x).toArray, .int .u8 (s[m].toNat)]) (by go_simp) (HC.out _) ?_
                  rintro e w7 ⟨rfl, hb7⟩
                  refine ⟨_, rfl, ?_⟩
                  have qa := (HG4.out.of_block (hb7.block _ HG4.out.lt)).cell (i := m) (by omega)
                  have qn := (HR4.out.of_block (hb7.block _ HR4.out.lt)).cell (i := m) (by omega)
                  have qy := (HA4.out.keep (hb7.block _ hq4)).many
                  rw [if_neg (by omega), if_pos (by omega)] at qn
                  have rf7 := (HR4.out.of_block (hb7.block _ HR4.out.lt)).frozen (m + 1)
                  have r7 := (HR4.out.of_block (hb7.block _ HR4.out.lt)).cell (i := m + 1) hil
                  rw [if_pos rfl] at r7
                  change wpAny _ _ _ _ _ _ (Act.put _ (some 59) _) _
                  simp only [Act.put, List.setIfInBounds_toArray, List.set_cons_zero, List.set_cons_succ]
                  refine wpAny_at (i := 9) (v := .bool false) (some 60) rfl rfl (by kernel_rfl) (by kernel_rfl) (by kernel_rfl) (fun _ _ _ h => h) (by kernel_rfl) (fun _ => ex_pick _ _ _ true (.bool false) (.bool false) rfl (by kernel_rfl) (by kernel_rfl) (by kernel_rfl)) ?_
                  simp only [Act.put, List.setIfInBounds_toArray, List.set_cons_zero, List.set_cons_succ]
                  refine wpAny_at (i := 10) (v := .bool false) (some 61) rfl rfl (by kernel_rfl) (by kernel_rfl) (by kernel_rfl) (fun _ _ _ h => h) (by kernel_rfl) (fun _ => ex_move _ _ rfl (by kernel_rfl)) ?_
                  simp only [Act.put, List.setIfInBounds_toArray, List.set_cons_zero, List.set_cons_succ]
                  refine wpAny_skip 11 (some 62) rfl rfl (by kernel_rfl) (by kernel_rfl) (by kernel_rfl) (fun _ _ _ h => h) (by kernel_rfl) ?_
                  simp only [Act.put, List.setIfInBounds_toArray, List.set_cons_zero, List.set_cons_succ]
                  refine wpAny_skip 12 (some 63) rfl rfl (by kernel_rfl) (by kernel_rfl) (by kernel_rfl) (fun _ _ _ h => h) (by kernel_rfl) ?_
                  simp only [Act.put, List.setIfInBounds_toArray, List.set_cons_zero, List.set_cons_succ]
                  refine wpAny_skip 13 (some 64) rfl rfl (by kernel_rfl) (by kernel_rfl) (by kernel_rfl) (fun _ _ _ h => h) (by kernel_rfl) ?_
                  simp only [Act.put, List.setIfInBounds_toArray, List.set_cons_zero, List.set_cons_succ]
                  refine wpAny_skip 14 (some 65) rfl rfl (by kernel_rfl) (by kernel_rfl) (by kernel_rfl) (fun _ _ _ h => h) (by kernel_rfl) ?_
                  simp only [Act.put, List.setIfInBounds_toArray, List.set_cons_zero, List.set_cons_succ]
                  refine wpAny_skip 15 (some 66) rfl rfl (by kernel_rfl) (by kernel_rfl) (by kernel_rfl) (fun _ _ _ h => h) (by kernel_rfl) ?_
                  simp only [Act.put, List.setIfInBounds_toArray, List.set_cons_zero, List.set_cons_succ]
                  refine wpAny_skip 16 (some 67) rfl rfl (by kernel_rfl) (by kernel_rfl) (by kernel_rfl) (fun _ _ _ h => h) (by kernel_rfl) ?_
                  simp only [Act.put, List.setIfInBounds_toArray, List.set_cons_zero, List.set_cons_succ]
                  refine wpAny_skip 17 (some 68) rfl rfl (by kernel_rfl) (by kernel_rfl) (by kernel_rfl) (fun _ _ _ h => h) (by kernel_rfl) ?_
                  simp only [Act.put, List.setIfInBounds_toArray, List.set_cons_zero, List.set_cons_succ]
                  refine wpAny_skip 18 (some 69) rfl rfl (by kernel_rfl) (by kernel_rfl) (by kernel_rfl) (fun _ _ _ h => h) (by kernel_rfl) ?_
                  simp only [Act.put, List.setIfInBounds_toArray, List.set_cons_zero, List.set_cons_succ]
                  refine wpAny_skip 19 (some 70) rfl rfl (by kernel_rfl) (by kernel_rfl) (by kernel_rfl) (fun _ _ _ h => h) (by kernel_rfl) ?_
                  simp only [Act.put, List.setIfInBounds_toArray, List.set_cons_zero, List.set_cons_succ]
                  refine wpAny_skip 20 (some 71) rfl rfl (by kernel_rfl) (by kernel_rfl) (by kernel_rfl) (fun _ _ _ h => h) (by kernel_rfl) ?_
                  simp only [Act.put, List.setIfInBounds_toArray, List.set_cons_zero, List.set_cons_succ]
                  refine wpAny_skip 21 (some 72) rfl rfl (by kernel_rfl) (by kernel_rfl) (by kernel_rfl) (fun _ _ _ h => h) (by kernel_rfl) ?_
                  simp only [Act.put, List.setIfInBounds_toArray, List.set_cons_zero, List.set_cons_succ]
                  refine wpAny_skip 22 (some 73) rfl rfl (by kernel_rfl) (by kernel_rfl) (by kernel_rfl) (fun _ _ _ h => h) (by kernel_rfl) ?_
                  simp only [Act.put, List.setIfInBounds_toArray, List.set_cons_zero, List.set_cons_succ]
                  refine wpAny_skip 23 (some 74) rfl rfl (by kernel_rfl) (by kernel_rfl) (by kernel_rfl) (fun _ _ _ h => h) (by kernel_rfl) ?_
                  simp only [Act.put, List.setIfInBounds_toArray, List.set_cons_zero, List.set_cons_succ]
                  refine wpAny_skip 24 (some 75) rfl rfl (by kernel_rfl) (by kernel_rfl) (by kernel_rfl) (fun _ _ _ h => h) (by kernel_rfl) ?_
                  simp only [Act.put, List.setIfInBounds_toArray, List.set_cons_zero, List.set_cons_succ]
                  refine wpAny_skip 25 (some 76) rfl rfl (by kernel_rfl) (by kernel_rfl) (by kernel_rfl) (fun _ _ _ h => h) (by kernel_rfl) ?_
                  simp only [Act.put, List.setIfInBounds_toArray, List.set_cons_zero, List.set_cons_succ]
                  refine wpAny_skip 26 (some 77) rfl rfl (by kernel_rfl) (by kernel_rfl) (by kernel_rfl) (fun _ _ _ h => h) (by kernel_rfl) ?_
                  simp only [Act.put, List.setIfInBounds_toArray, List.set_cons_zero, List.set_cons_succ]
                  refine wpAny_at (i := 27) (v := .bool false) (some 78) rfl rfl (by kernel_rfl) (by kernel_rfl) (by kernel_rfl) (fun _ _ _ h => h) (by kernel_rfl) (fun _ => ex_pick _ _ _ false (undef) (.bool false) rfl (by kernel_rfl) (by kernel_rfl) (by kernel_rfl)) ?_
                  simp only [Act.put, List.setIfInBounds_toArray, List.set_cons_zero, List.set_cons_succ]
                  refine wpAny_done (by kernel_rfl) ?_ _
                  go_wp2_with fail
                  have HR7 := Lib.hid (HR4.out.of_block (hb7.block _ HR4.out.lt))
                  have HG7 := Lib.hid (HG4.out.of_block (hb7.block _ HG4.out.lt))
                  have HA7 := Lib.hid (HA4.out.keep (hb7.block _ hq4))
                  have HB7 := Lib.hid (HB4.out.trans (hb7.mono HB4.out.size))
                  have HRE : Hid (w7.rowIs N 4 (s.size + 1) (fun j => .bool (if j < m + 1 + 1 then advF x s g j else false))) := HR7.out.congr fun j hj => by
                    by_cases h : j = m + 1
                    · rw [if_pos h, if_pos (by omega), h, HVE.out]
                    · rw [if_neg h]
                      by_cases h2 : j < m + 1
                      · rw [if_pos h2, if_pos (by omega)]
                      · rw [if_neg h2, if_neg (by omega)]
                  go_roundg (s.size + 1 - (m + 1 + 1))
                  case measure => omega
                  case rel => exact ⟨m + 1 + 1, by omega, by go_num, HRE.out, HG7.out, HA7.out, HB7.out, Nat.le_refl _⟩
                | true =>
                  rw [hpx] at HV
                  have HC := HC0
                  rw [hpx] at HC
                  cases hfi : g m with
                  | true =>
                    rw [hfi] at HV
                    have HVE : Hid (advF x s g (m + 1) = true) := by
                      show _ = _
                      rw [HV.out]
                      exact Bool.or_true _
                    refine wp_region_at 28 #[false, false, false, false, false, false, false, false, false, false, false, false, false, false, false, false, false, false, false, false, false, false, false, false, false, false, false, false] rfl rfl (by kernel_rfl) ?_
                    refine wpAny_at (i := 0) (v := .int .i64 ((m : Int) + 1)) (some 51) rfl rfl (by kernel_rfl) (by kernel_rfl) (by kernel_rfl) (fun _ _ _ h => h) (by kernel_rfl) (fun _ => ex_move _ _ rfl (by kernel_rfl)) ?_
                    simp only [Act.put, List.setIfInBounds_toArray, List.set_cons_zero, List.set_cons_succ]
                    refine wpAny_at (i := 1) (v := .bool true) (some 52) rfl rfl (by kernel_rfl) (by kernel_rfl) (by kernel_rfl) (fun _ _ _ h => h) (by kernel_rfl) (fun _ => ex_binOp .gtr 3 _ _ _ (.int .i64 ((m : Int) + 1)) (.int .i64 0) _ rfl (by kernel_rfl) (by kernel_rfl) (HGT.out _)) ?_
                    simp only [Act.put, List.setIfInBounds_toArray, List.set_cons_zero, List.set_cons_succ]
                    refine wpAny_at (i := 2) (v := .bool true) (some 53) rfl rfl (by kernel_rfl) (by kernel_rfl) (by kernel_rfl) (fun _ _ _ h => h) (by kernel_rfl) (fun _ => ex_move _ _ rfl (by kernel_rfl)) ?_
                    simp only [Act.put, List.setIfInBounds_toArray, List.set_cons_zero, List.set_cons_succ]
                    refine wpAny_at (i := 4) (v := .string s) (some 55) rfl rfl (by kernel_rfl) (by kernel_rfl) (by kernel_rfl) (fun _ _ _ h => h) (by kernel_rfl) (fun _ => ex_move _ _ rfl (by kernel_rfl)) ?_
                    simp only [Act.put, List.setIfInBounds_toArray, List.set_cons_zero, List.set_cons_succ]
                    refine wpAny_at (i := 5) (v := .int .i64 ((m : Int) + 1)) (some 56) rfl rfl (by kernel_rfl) (by kernel_rfl) (by kernel_rfl) (fun _ _ _ h => h) (by kernel_rfl) (fun _ => ex_move _ _ rfl (by kernel_rfl)) ?_
                    simp only [Act.put, List.setIfInBounds_toArray, List.set_cons_zero, List.set_cons_succ]
                    refine wpAny_at (i := 6) (v := .int .i64 m) (some 57) rfl rfl (by kernel_rfl) (by kernel_rfl) (by kernel_rfl) (fun _ _ _ h => h) (by kernel_rfl) (fun _ => ex_binOp .sub 3 _ _ _ (.int .i64 ((m : Int) + 1)) (.int .i64 1) _ rfl (by kernel_rfl) (by kernel_rfl) (HSB.out _)) ?_
                    simp only [Act.put, List.setIfInBounds_toArray, List.set_cons_zero, List.set_cons_succ]
                    refine wpAny_at (i := 7) (v := .int .u8 (s[m].toNat)) (some 58) rfl rfl (by kernel_rfl) (by kernel_rfl) (by kernel_rfl) (fun _ _ _ h => h) (by kernel_rfl) (fun _ => ex_index 9 _ _ (.string s) (.int .i64 m) _ rfl (by kernel_rfl) (by kernel_rfl) (HIX.out _)) ?_
                    simp only [Act.put, List.setIfInBounds_toArray, List.set_cons_zero, List.set_cons_succ]
                    refine wpAny_val 3 (some 54) (.agg (atC x).toArray) (by kernel_rfl) rfl rfl (by kernel_rfl) (ex_load 26 _ (.pointer (some ⟨q, 0, none⟩)) _ rfl (by kernel_rfl) (HLD.out)) ?_
                    simp only [Act.put, List.setIfInBounds_toArray, List.set_cons_zero, List.set_cons_succ]
                    refine wpAny_call 8 (some 59) (by kernel_rfl) rfl rfl (by kernel_rfl) 82 (#[.agg (atC x).toArray, .int .u8 (s[m].toNat)]) (by go_simp) (HC.out _) ?_
                    rintro e w7 ⟨rfl, hb7⟩
                    refine ⟨_, rfl, ?_⟩
                    have qa := (HG4.out.of_block (hb7.block _ HG4.out.lt)).cell (i := m) (by omega)
                    have qn := (HR4.out.of_block (hb7.block _ HR4.out.lt)).cell (i := m) (by omega)
                    have qy := (HA4.out.keep (hb7.block _ hq4)).many
                    rw [if_neg (by omega), if_pos (by omega)] at qn
                    rw [hfi] at qa
                    have rf7 := (HR4.out.of_block (hb7.block _ HR4.out.lt)).frozen (m + 1)
                    have r7 := (HR4.out.of_block (hb7.block _ HR4.out.lt)).cell (i := m + 1) hil
                    rw [if_pos rfl] at r7
                    change wpAny _ _ _ _ _ _ (Act.put _ (some 59) _) _
                    simp only [Act.put, List.setIfInBounds_toArray, List.set_cons_zero, List.set_cons_succ]
                    refine wpAny_at (i := 9) (v := .bool true) (some 60) rfl rfl (by kernel_rfl) (by kernel_rfl) (by kernel_rfl) (fun _ _ _ h => h) (by kernel_rfl) (fun _ => ex_pick _ _ _ true (.bool true) (.bool false) rfl (by kernel_rfl) (by kernel_rfl) (by kernel_rfl)) ?_
                    simp only [Act.put, List.setIfInBounds_toArray, List.set_cons_zero, List.set_cons_succ]
                    refine wpAny_at (i := 10) (v := .bool true) (some 61) rfl rfl (by kernel_rfl) (by kernel_rfl) (by kernel_rfl) (fun _ _ _ h => h) (by kernel_rfl) (fun _ => ex_move _ _ rfl (by kernel_rfl)) ?_
                    simp only [Act.put, List.setIfInBounds_toArray, List.set_cons_zero, List.set_cons_succ]
                    refine wpAny_at (i := 11) (v := .slice (some ⟨b, 0, none⟩) (s.size + 1) (s.size + 1)) (some 62) rfl rfl (by kernel_rfl) (by kernel_rfl) (by kernel_rfl) (fun _ _ _ h => h) (by kernel_rfl) (fun _ => ex_move _ _ rfl (by kernel_rfl)) ?_
                    simp only [Act.put, List.setIfInBounds_toArray, List.set_cons_zero, List.set_cons_succ]
                    refine wpAny_at (i := 12) (v := .int .i64 ((m : Int) + 1)) (some 63) rfl rfl (by kernel_rfl) (by kernel_rfl) (by kernel_rfl) (fun _ _ _ h => h) (by kernel_rfl) (fun _ => ex_move _ _ rfl (by kernel_rfl)) ?_
                    simp only [Act.put, List.setIfInBounds_toArray, List.set_cons_zero, List.set_cons_succ]
                    refine wpAny_at (i := 13) (v := .int .i64 m) (some 64) rfl rfl (by kernel_rfl) (by kernel_rfl) (by kernel_rfl) (fun _ _ _ h => h) (by kernel_rfl) (fun _ => ex_binOp .sub 3 _ _ _ (.int .i64 ((m : Int) + 1)) (.int .i64 1) _ rfl (by kernel_rfl) (by kernel_rfl) (HSB.out _)) ?_
                    simp only [Act.put, List.setIfInBounds_toArray, List.set_cons_zero, List.set_cons_succ]
                    refine wpAny_at (i := 14) (v := .pointer (some ⟨b, m, none⟩)) (some 65) rfl rfl (by kernel_rfl) (by kernel_rfl) (by kernel_rfl) (fun _ _ _ h => h) (by kernel_rfl) (fun _ => ex_indexAddr 86 _ _ (.slice (some ⟨b, 0, none⟩) (s.size + 1) (s.size + 1)) (.int .i64 m) _ rfl (by kernel_rfl) (by kernel_rfl) (HIB.out _)) ?_
                    simp only [Act.put, List.setIfInBounds_toArray, List.set_cons_zero, List.set_cons_succ]
                    refine wpAny_val 15 (some 66) (.bool true) (by kernel_rfl) rfl rfl (by kernel_rfl) (ex_load 4 _ (.pointer (some ⟨b, m, none⟩)) _ rfl (by kernel_rfl) (by go_simp)) ?_
                    simp only [Act.put, List.setIfInBounds_toArray, List.set_cons_zero, List.set_cons_succ]
                    refine wpAny_at (i := 16) (v := .bool true) (some 67) rfl rfl (by kernel_rfl) (by kernel_rfl) (by kernel_rfl) (fun _ _ _ h => h) (by kernel_rfl) (fun _ => ex_move _ _ rfl (by kernel_rfl)) ?_
                    simp only [Act.put, List.setIfInBounds_toArray, List.set_cons_zero, List.set_cons_succ]
                    refine wpAny_skip 17 (some 68) rfl rfl (by kernel_rfl) (by kernel_rfl) (by kernel_rfl) (fun _ _ _ h => h) (by kernel_rfl) ?_
                    simp only [Act.put, List.setIfInBounds_toArray, List.set_cons_zero, List.set_cons_succ]
                    refine wpAny_skip 18 (some 69) rfl rfl (by kernel_rfl) (by kernel_rfl) (by kernel_rfl) (fun _ _ _ h => h) (by kernel_rfl) ?_
                    simp only [Act.put, List.setIfInBounds_toArray, List.set_cons_zero, List.set_cons_succ]
                    refine wpAny_skip 19 (some 70) rfl rfl (by kernel_rfl) (by kernel_rfl) (by kernel_rfl) (fun _ _ _ h => h) (by kernel_rfl) ?_
                    simp only [Act.put, List.setIfInBounds_toArray, List.set_cons_zero, List.set_cons_succ]
                    refine wpAny_skip 20 (some 71) rfl rfl (by kernel_rfl) (by kernel_rfl) (by kernel_rfl) (fun _ _ _ h => h) (by kernel_rfl) ?_
                    simp only [Act.put, List.setIfInBounds_toArray, List.set_cons_zero, List.set_cons_succ]
                    refine wpAny_skip 21 (some 72) rfl rfl (by kernel_rfl) (by kernel_rfl) (by kernel_rfl) (fun _ _ _ h => h) (by kernel_rfl) ?_
                    simp only [Act.put, List.setIfInBounds_toArray, List.set_cons_zero, List.set_cons_succ]
                    refine wpAny_skip 22 (some 73) rfl rfl (by kernel_rfl) (by kernel_rfl) (by kernel_rfl) (fun _ _ _ h => h) (by kernel_rfl) ?_
                    simp only [Act.put, List.setIfInBounds_toArray, List.set_cons_zero, List.set_cons_succ]
                    refine wpAny_skip 23 (some 74) rfl rfl (by kernel_rfl) (by kernel_rfl) (by kernel_rfl) (fun _ _ _ h => h) (by kernel_rfl) ?_
                    simp only [Act.put, List.setIfInBounds_toArray, List.set_cons_zero, List.set_cons_succ]
                    refine wpAny_skip 24 (some 75) rfl rfl (by kernel_rfl) (by kernel_rfl) (by kernel_rfl) (fun _ _ _ h => h) (by kernel_rfl) ?_
                    simp only [Act.put, List.setIfInBounds_toArray, List.set_cons_zero, List.set_cons_succ]
                    refine wpAny_skip 25 (some 76) rfl rfl (by kernel_rfl) (by kernel_rfl) (by kernel_rfl) (fun _ _ _ h => h) (by kernel_rfl) ?_
                    simp only [Act.put, List.setIfInBounds_toArray, List.set_cons_zero, List.set_cons_succ]
                    refine wpAny_at (i := 26) (v := .bool true) (some 77) rfl rfl (by kernel_rfl) (by kernel_rfl) (by kernel_rfl) (fun _ _ _ h => h) (by kernel_rfl) (fun _ => ex_pick _ _ _ true (.bool true) (undef) rfl (by kernel_rfl) (by kernel_rfl) (by kernel_rfl)) ?_
                    simp only [Act.put, List.setIfInBounds_toArray, List.set_cons_zero, List.set_cons_succ]
                    refine wpAny_at (i := 27) (v := .bool true) (some 78) rfl rfl (by kernel_rfl) (by kernel_rfl) (by kernel_rfl) (fun _ _ _ h => h) (by kernel_rfl) (fun _ => ex_pick _ _ _ true (.bool true) (.bool false) rfl (by kernel_rfl) (by kernel_rfl) (by kernel_rfl)) ?_
                    simp only [Act.put, List.setIfInBounds_toArray, List.set_cons_zero, List.set_cons_succ]
                    refine wpAny_done (by kernel_rfl) ?_ _
                    go_wp2_with fail
                    have HR7 := Lib.hid (HR4.out.of_block (hb7.block _ HR4.out.lt))
                    have HG7 := Lib.hid (HG4.out.of_block (hb7.block _ HG4.out.lt))
                    have HA7 := Lib.hid (HA4.out.keep (hb7.block _ hq4))
                    have HB7 := Lib.hid (HB4.out.trans (hb7.mono HB4.out.size))
                    have HRE : Hid ((w7.setCell ⟨N, m + 1, none⟩ (.bool true)).rowIs N 4 (s.size + 1) (fun j => .bool (if j < m + 1 + 1 then advF x s g j else false))) := (HR7.out.set (m + 1) (.bool true)).congr fun j hj => by
                      by_cases h : j = m + 1
                      · rw [if_pos h, if_pos (by omega), h, HVE.out]
                      · rw [if_neg h, if_neg h]
                        by_cases h2 : j < m + 1
                        · rw [if_pos h2, if_pos (by omega)]
                        · rw [if_neg h2, if_neg (by omega)]
                    go_roundg (s.size + 1 - (m + 1 + 1))
                    case measure => omega
                    case rel => exact ⟨m + 1 + 1, by omega, by go_num, HRE.out, HG7.out.of_block (Below.heap_setCell _ _ _ _ (show b ≠ N by omega)), HA7.out.keep (Below.heap_setCell _ _ _ _ (show q ≠ N by omega)), HB7.out.setCell (p := ⟨N, m + 1, none⟩) (show w.heap.size ≤ N by omega) _, Nat.le_refl _⟩
                  | false =>
                    rw [hfi] at HV
                    cases hmm : x.many with
                    | false =>
                      rw [hmm] at HV
                      have HVE : Hid (advF x s g (m + 1) = false) := by
                        show _ = _
                        rw [HV.out]
                        exact Bool.or_false _
                      refine wp_region_at 28 #[false, false, false, false, false, false, false, false, false, false, false, false, false, false, false, false, false, false, false, false, false, false, false, false, false, false, false, false] rfl rfl (by kernel_rfl) ?_
                      refine wpAny_at (i := 0) (v := .int .i64 ((m : Int) + 1)) (some 51) rfl rfl (by kernel_rfl) (by kernel_rfl) (by kernel_rfl) (fun _ _ _ h => h) (by kernel_rfl) (fun _ => ex_move _ _ rfl (by kernel_rfl)) ?_
                      simp only [Act.put, List.setIfInBounds_toArray, List.set_cons_zero, List.set_cons_succ]
                      refine wpAny_at (i := 1) (v := .bool true) (some 52) rfl rfl (by kernel_rfl) (by kernel_rfl) (by kernel_rfl) (fun _ _ _ h => h) (by kernel_rfl) (fun _ => ex_binOp .gtr 3 _ _ _ (.int .i64 ((m : Int) + 1)) (.int .i64 0) _ rfl (by kernel_rfl) (by kernel_rfl) (HGT.out _)) ?_
                      simp only [Act.put, List.setIfInBounds_toArray, List.set_cons_zero, List.set_cons_succ]
                      refine wpAny_at (i := 2) (v := .bool true) (some 53) rfl rfl (by kernel_rfl) (by kernel_rfl) (by kernel_rfl) (fun _ _ _ h => h) (by kernel_rfl) (fun _ => ex_move _ _ rfl (by kernel_rfl)) ?_
                      simp only [Act.put, List.setIfInBounds_toArray, List.set_cons_zero, List.set_cons_succ]
                      refine wpAny_at (i := 4) (v := .string s) (some 55) rfl rfl (by kernel_rfl) (by kernel_rfl) (by kernel_rfl) (fun _ _ _ h => h) (by kernel_rfl) (fun _ => ex_move _ _ rfl (by kernel_rfl)) ?_
                      simp only [Act.put, List.setIfInBounds_toArray, List.set_cons_zero, List.set_cons_succ]
                      refine wpAny_at (i := 5) (v := .int .i64 ((m : Int) + 1)) (some 56) rfl rfl (by kernel_rfl) (by kernel_rfl) (by kernel_rfl) (fun _ _ _ h => h) (by kernel_rfl) (fun _ => ex_move _ _ rfl (by kernel_rfl)) ?_
                      simp only [Act.put, List.setIfInBounds_toArray, List.set_cons_zero, List.set_cons_succ]
                      refine wpAny_at (i := 6) (v := .int .i64 m) (some 57) rfl rfl (by kernel_rfl) (by kernel_rfl) (by kernel_rfl) (fun _ _ _ h => h) (by kernel_rfl) (fun _ => ex_binOp .sub 3 _ _ _ (.int .i64 ((m : Int) + 1)) (.int .i64 1) _ rfl (by kernel_rfl) (by kernel_rfl) (HSB.out _)) ?_
                      simp only [Act.put, List.setIfInBounds_toArray, List.set_cons_zero, List.set_cons_succ]
                      refine wpAny_at (i := 7) (v := .int .u8 (s[m].toNat)) (some 58) rfl rfl (by kernel_rfl) (by kernel_rfl) (by kernel_rfl) (fun _ _ _ h => h) (by kernel_rfl) (fun _ => ex_index 9 _ _ (.string s) (.int .i64 m) _ rfl (by kernel_rfl) (by kernel_rfl) (HIX.out _)) ?_
                      simp only [Act.put, List.setIfInBounds_toArray, List.set_cons_zero, List.set_cons_succ]
                      refine wpAny_val 3 (some 54) (.agg (atC x).toArray) (by kernel_rfl) rfl rfl (by kernel_rfl) (ex_load 26 _ (.pointer (some ⟨q, 0, none⟩)) _ rfl (by kernel_rfl) (HLD.out)) ?_
                      simp only [Act.put, List.setIfInBounds_toArray, List.set_cons_zero, List.set_cons_succ]
                      refine wpAny_call 8 (some 59) (by kernel_rfl) rfl rfl (by kernel_rfl) 82 (#[.agg (atC x).toArray, .int .u8 (s[m].toNat)]) (by go_simp) (HC.out _) ?_
                      rintro e w7 ⟨rfl, hb7⟩
                      refine ⟨_, rfl, ?_⟩
                      have qa := (HG4.out.of_block (hb7.block _ HG4.out.lt)).cell (i := m) (by omega)
                      have qn := (HR4.out.of_block (hb7.block _ HR4.out.lt)).cell (i := m) (by omega)
                      have qy := (HA4.out.keep (hb7.block _ hq4)).many
                      rw [if_neg (by omega), if_pos (by omega)] at qn
                      rw [hfi] at qa
                      rw [hmm] at qy
                      have rf7 := (HR4.out.of_block (hb7.block _ HR4.out.lt)).frozen (m + 1)
                      have r7 := (HR4.out.of_block (hb7.block _ HR4.out.lt)).cell (i := m + 1) hil
                      rw [if_pos rfl] at r7
                      change wpAny _ _ _ _ _ _ (Act.put _ (some 59) _) _
                      simp only [Act.put, List.setIfInBounds_toArray, List.set_cons_zero, List.set_cons_succ]
                      refine wpAny_at (i := 9) (v := .bool true) (some 60) rfl rfl (by kernel_rfl) (by kernel_rfl) (by kernel_rfl) (fun _ _ _ h => h) (by kernel_rfl) (fun _ => ex_pick _ _ _ true (.bool true) (.bool false) rfl (by kernel_rfl) (by kernel_rfl) (by kernel_rfl)) ?_
                      simp only [Act.put, List.setIfInBounds_toArray, List.set_cons_zero, List.set_cons_succ]
                      refine wpAny_at (i := 10) (v := .bool true) (some 61) rfl rfl (by kernel_rfl) (by kernel_rfl) (by kernel_rfl) (fun _ _ _ h => h) (by kernel_rfl) (fun _ => ex_move _ _ rfl (by kernel_rfl)) ?_
                      simp only [Act.put, List.setIfInBounds_toArray, List.set_cons_zero, List.set_cons_succ]
                      refine wpAny_at (i := 11) (v := .slice (some ⟨b, 0, none⟩) (s.size + 1) (s.size + 1)) (some 62) rfl rfl (by kernel_rfl) (by kernel_rfl) (by kernel_rfl) (fun _ _ _ h => h) (by kernel_rfl) (fun _ => ex_move _ _ rfl (by kernel_rfl)) ?_
                      simp only [Act.put, List.setIfInBounds_toArray, List.set_cons_zero, List.set_cons_succ]
                      refine wpAny_at (i := 12) (v := .int .i64 ((m : Int) + 1)) (some 63) rfl rfl (by kernel_rfl) (by kernel_rfl) (by kernel_rfl) (fun _ _ _ h => h) (by kernel_rfl) (fun _ => ex_move _ _ rfl (by kernel_rfl)) ?_
                      simp only [Act.put, List.setIfInBounds_toArray, List.set_cons_zero, List.set_cons_succ]
                      refine wpAny_at (i := 13) (v := .int .i64 m) (some 64) rfl rfl (by kernel_rfl) (by kernel_rfl) (by kernel_rfl) (fun _ _ _ h => h) (by kernel_rfl) (fun _ => ex_binOp .sub 3 _ _ _ (.int .i64 ((m : Int) + 1)) (.int .i64 1) _ rfl (by kernel_rfl) (by kernel_rfl) (HSB.out _)) ?_
                      simp only [Act.put, List.setIfInBounds_toArray, List.set_cons_zero, List.set_cons_succ]
                      refine wpAny_at (i := 14) (v := .pointer (some ⟨b, m, none⟩)) (some 65) rfl rfl (by kernel_rfl) (by kernel_rfl) (by kernel_rfl) (fun _ _ _ h => h) (by kernel_rfl) (fun _ => ex_indexAddr 86 _ _ (.slice (some ⟨b, 0, none⟩) (s.size + 1) (s.size + 1)) (.int .i64 m) _ rfl (by kernel_rfl) (by kernel_rfl) (HIB.out _)) ?_
                      simp only [Act.put, List.setIfInBounds_toArray, List.set_cons_zero, List.set_cons_succ]
                      refine wpAny_val 15 (some 66) (.bool false) (by kernel_rfl) rfl rfl (by kernel_rfl) (ex_load 4 _ (.pointer (some ⟨b, m, none⟩)) _ rfl (by kernel_rfl) (by go_simp)) ?_
                      simp only [Act.put, List.setIfInBounds_toArray, List.set_cons_zero, List.set_cons_succ]
                      refine wpAny_at (i := 16) (v := .bool false) (some 67) rfl rfl (by kernel_rfl) (by kernel_rfl) (by kernel_rfl) (fun _ _ _ h => h) (by kernel_rfl) (fun _ => ex_move _ _ rfl (by kernel_rfl)) ?_
                      simp only [Act.put, List.setIfInBounds_toArray, List.set_cons_zero, List.set_cons_succ]
                      refine wpAny_at (i := 17) (v := .pointer (some ⟨q, 33, none⟩)) (some 68) rfl rfl (by kernel_rfl) (by kernel_rfl) (by kernel_rfl) (fun _ _ _ h => h) (by kernel_rfl) (fun _ => ex_fieldAddr 26 _ 2 (.pointer (some ⟨q, 0, none⟩)) _ rfl (by kernel_rfl) (by go_simp)) ?_
                      simp only [Act.put, List.setIfInBounds_toArray, List.set_cons_zero, List.set_cons_succ]
                      refine wpAny_val 18 (some 69) (.bool false) (by kernel_rfl) rfl rfl (by kernel_rfl) (ex_load 4 _ (.pointer (some ⟨q, 33, none⟩)) _ rfl (by kernel_rfl) (by go_simp)) ?_
                      simp only [Act.put, List.setIfInBounds_toArray, List.set_cons_zero, List.set_cons_succ]
                      refine wpAny_at (i := 19) (v := .bool false) (some 70) rfl rfl (by kernel_rfl) (by kernel_rfl) (by kernel_rfl) (fun _ _ _ h => h) (by kernel_rfl) (fun _ => ex_move _ _ rfl (by kernel_rfl)) ?_
                      simp only [Act.put, List.setIfInBounds_toArray, List.set_cons_zero, List.set_cons_succ]
                      refine wpAny_skip 20 (some 71) rfl rfl (by kernel_rfl) (by kernel_rfl) (by kernel_rfl) (fun _ _ _ h => h) (by kernel_rfl) ?_
                      simp only [Act.put, List.setIfInBounds_toArray, List.set_cons_zero, List.set_cons_succ]
                      refine wpAny_skip 21 (some 72) rfl rfl (by kernel_rfl) (by kernel_rfl) (by kernel_rfl) (fun _ _ _ h => h) (by kernel_rfl) ?_
                      simp only [Act.put, List.setIfInBounds_toArray, List.set_cons_zero, List.set_cons_succ]
                      refine wpAny_skip 22 (some 73) rfl rfl (by kernel_rfl) (by kernel_rfl) (by kernel_rfl) (fun _ _ _ h => h) (by kernel_rfl) ?_
                      simp only [Act.put, List.setIfInBounds_toArray, List.set_cons_zero, List.set_cons_succ]
                      refine wpAny_skip 23 (some 74) rfl rfl (by kernel_rfl) (by kernel_rfl) (by kernel_rfl) (fun _ _ _ h => h) (by kernel_rfl) ?_
                      simp only [Act.put, List.setIfInBounds_toArray, List.set_cons_zero, List.set_cons_succ]
                      refine wpAny_skip 24 (some 75) rfl rfl (by kernel_rfl) (by kernel_rfl) (by kernel_rfl) (fun _ _ _ h => h) (by kernel_rfl) ?_
                      simp only [Act.put, List.setIfInBounds_toArray, List.set_cons_zero, List.set_cons_succ]
                      refine wpAny_at (i := 25) (v := .bool false) (some 76) rfl rfl (by kernel_rfl) (by kernel_rfl) (by kernel_rfl) (fun _ _ _ h => h) (by kernel_rfl) (fun _ => ex_pick _ _ _ false (undef) (.bool false) rfl (by kernel_rfl) (by kernel_rfl) (by kernel_rfl)) ?_
                      simp only [Act.put, List.setIfInBounds_toArray, List.set_cons_zero, List.set_cons_succ]
                      refine wpAny_at (i := 26) (v := .bool false) (some 77) rfl rfl (by kernel_rfl) (by kernel_rfl) (by kernel_rfl) (fun _ _ _ h => h) (by kernel_rfl) (fun _ => ex_pick _ _ _ false (.bool true) (.bool false) rfl (by kernel_rfl) (by kernel_rfl) (by kernel_rfl)) ?_
                      simp only [Act.put, List.setIfInBounds_toArray, List.set_cons_zero, List.set_cons_succ]
                      refine wpAny_at (i := 27) (v := .bool false) (some 78) rfl rfl (by kernel_rfl) (by kernel_rfl) (by kernel_rfl) (fun _ _ _ h => h) (by kernel_rfl) (fun _ => ex_pick _ _ _ true (.bool false) (.bool false) rfl (by kernel_rfl) (by kernel_rfl) (by kernel_rfl)) ?_
                      simp only [Act.put, List.setIfInBounds_toArray, List.set_cons_zero, List.set_cons_succ]
                      refine wpAny_done (by kernel_rfl) ?_ _
                      go_wp2_with fail
                      have HR7 := Lib.hid (HR4.out.of_block (hb7.block _ HR4.out.lt))
                      have HG7 := Lib.hid (HG4.out.of_block (hb7.block _ HG4.out.lt))
                      have HA7 := Lib.hid (HA4.out.keep (hb7.block _ hq4))
                      have HB7 := Lib.hid (HB4.out.trans (hb7.mono HB4.out.size))
                      have HRE : Hid (w7.rowIs N 4 (s.size + 1) (fun j => .bool (if j < m + 1 + 1 then advF x s g j else false))) := HR7.out.congr fun j hj => by
                        by_cases h : j = m + 1
                        · rw [if_pos h, if_pos (by omega), h, HVE.out]
                        · rw [if_neg h]
                          by_cases h2 : j < m + 1
                          · rw [if_pos h2, if_pos (by omega)]
                          · rw [if_neg h2, if_neg (by omega)]
                      go_roundg (s.size + 1 - (m + 1 + 1))
                      case measure => omega
                      case rel => exact ⟨m + 1 + 1, by omega, by go_num, HRE.out, HG7.out, HA7.out, HB7.out, Nat.le_refl _⟩
                    | true =>
                      rw [hmm] at HV
                      cases hni : advF x s g m with
                      | true =>
                        rw [hni] at HV
                        have HVE : Hid (advF x s g (m + 1) = true) := by
                          show _ = _
                          rw [HV.out]
                          exact Bool.or_true _
                        refine wp_region_at 28 #[false, false, false, false, false, false, false, false, false, false, false, false, false, false, false, false, false, false, false, false, false, false, false, false, false, false, false, false] rfl rfl (by kernel_rfl) ?_
                        refine wpAny_at (i := 0) (v := .int .i64 ((m : Int) + 1)) (some 51) rfl rfl (by kernel_rfl) (by kernel_rfl) (by kernel_rfl) (fun _ _ _ h => h) (by kernel_rfl) (fun _ => ex_move _ _ rfl (by kernel_rfl)) ?_
                        simp only [Act.put, List.setIfInBounds_toArray, List.set_cons_zero, List.set_cons_succ]
                        refine wpAny_at (i := 1) (v := .bool true) (some 52) rfl rfl (by kernel_rfl) (by kernel_rfl) (by kernel_rfl) (fun _ _ _ h => h) (by kernel_rfl) (fun _ => ex_binOp .gtr 3 _ _ _ (.int .i64 ((m : Int) + 1)) (.int .i64 0) _ rfl (by kernel_rfl) (by kernel_rfl) (HGT.out _)) ?_
                        simp only [Act.put, List.setIfInBounds_toArray, List.set_cons_zero, List.set_cons_succ]
                        refine wpAny_at (i := 2) (v := .bool true) (some 53) rfl rfl (by kernel_rfl) (by kernel_rfl) (by kernel_rfl) (fun _ _ _ h => h) (by kernel_rfl) (fun _ => ex_move _ _ rfl (by kernel_rfl)) ?_
                        simp only [Act.put, List.setIfInBounds_toArray, List.set_cons_zero, List.set_cons_succ]
                        refine wpAny_at (i := 4) (v := .string s) (some 55) rfl rfl (by kernel_rfl) (by kernel_rfl) (by kernel_rfl) (fun _ _ _ h => h) (by kernel_rfl) (fun _ => ex_move _ _ rfl (by kernel_rfl)) ?_
                        simp only [Act.put, List.setIfInBounds_toArray, List.set_cons_zero, List.set_cons_succ]
                        refine wpAny_at (i := 5) (v := .int .i64 ((m : Int) + 1)) (some 56) rfl rfl (by kernel_rfl) (by kernel_rfl) (by kernel_rfl) (fun _ _ _ h => h) (by kernel_rfl) (fun _ => ex_move _ _ rfl (by kernel_rfl)) ?_
                        simp only [Act.put, List.setIfInBounds_toArray, List.set_cons_zero, List.set_cons_succ]
                        refine wpAny_at (i := 6) (v := .int .i64 m) (some 57) rfl rfl (by kernel_rfl) (by kernel_rfl) (by kernel_rfl) (fun _ _ _ h => h) (by kernel_rfl) (fun _ => ex_binOp .sub 3 _ _ _ (.int .i64 ((m : Int) + 1)) (.int .i64 1) _ rfl (by kernel_rfl) (by kernel_rfl) (HSB.out _)) ?_
                        simp only [Act.put, List.setIfInBounds_toArray, List.set_cons_zero, List.set_cons_succ]
                        refine wpAny_at (i := 7) (v := .int .u8 (s[m].toNat)) (some 58) rfl rfl (by kernel_rfl) (by kernel_rfl) (by kernel_rfl) (fun _ _ _ h => h) (by kernel_rfl) (fun _ => ex_index 9 _ _ (.string s) (.int .i64 m) _ rfl (by kernel_rfl) (by kernel_rfl) (HIX.out _)) ?_
                        simp only [Act.put, List.setIfInBounds_toArray, List.set_cons_zero, List.set_cons_succ]
                        refine wpAny_val 3 (some 54) (.agg (atC x).toArray) (by kernel_rfl) rfl rfl (by kernel_rfl) (ex_load 26 _ (.pointer (some ⟨q, 0, none⟩)) _ rfl (by kernel_rfl) (HLD.out)) ?_
                        simp only [Act.put, List.setIfInBounds_toArray, List.set_cons_zero, List.set_cons_succ]
                        refine wpAny_call 8 (some 59) (by kernel_rfl) rfl rfl (by kernel_rfl) 82 (#[.agg (atC x).toArray, .int .u8 (s[m].toNat)]) (by go_simp) (HC.out _) ?_
                        rintro e w7 ⟨rfl, hb7⟩
                        refine ⟨_, rfl, ?_⟩
                        have qa := (HG4.out.of_block (hb7.block _ HG4.out.lt)).cell (i := m) (by omega)
                        have qn := (HR4.out.of_block (hb7.block _ HR4.out.lt)).cell (i := m) (by omega)
                        have qy := (HA4.out.keep (hb7.block _ hq4)).many
                        rw [if_neg (by omega), if_pos (by omega)] at qn
                        rw [hfi] at qa
                        rw [hmm] at qy
                        rw [hni] at qn
                        have rf7 := (HR4.out.of_block (hb7.block _ HR4.out.lt)).frozen (m + 1)
                        have r7 := (HR4.out.of_block (hb7.block _ HR4.out.lt)).cell (i := m + 1) hil
                        rw [if_pos rfl] at r7
                        change wpAny _ _ _ _ _ _ (Act.put _ (some 59) _) _
                        simp only [Act.put, List.setIfInBounds_toArray, List.set_cons_zero, List.set_cons_succ]
                        refine wpAny_at (i := 9) (v := .bool true) (some 60) rfl rfl (by kernel_rfl) (by kernel_rfl) (by kernel_rfl) (fun _ _ _ h => h) (by kernel_rfl) (fun _ => ex_pick _ _ _ true (.bool true) (.bool false) rfl (by kernel_rfl) (by kernel_rfl) (by kernel_rfl)) ?_
                        simp only [Act.put, List.setIfInBounds_toArray, List.set_cons_zero, List.set_cons_succ]
                        refine wpAny_at (i := 10) (v := .bool true) (some 61) rfl rfl (by kernel_rfl) (by kernel_rfl) (by kernel_rfl) (fun _ _ _ h => h) (by kernel_rfl) (fun _ => ex_move _ _ rfl (by kernel_rfl)) ?_
                        simp only [Act.put, List.setIfInBounds_toArray, List.set_cons_zero, List.set_cons_succ]
                        refine wpAny_at (i := 11) (v := .slice (some ⟨b, 0, none⟩) (s.size + 1) (s.size + 1)) (some 62) rfl rfl (by kernel_rfl) (by kernel_rfl) (by kernel_rfl) (fun _ _ _ h => h) (by kernel_rfl) (fun _ => ex_move _ _ rfl (by kernel_rfl)) ?_
                        simp only [Act.put, List.setIfInBounds_toArray, List.set_cons_zero, List.set_cons_succ]
                        refine wpAny_at (i := 12) (v := .int .i64 ((m : Int) + 1)) (some 63) rfl rfl (by kernel_rfl) (by kernel_rfl) (by kernel_rfl) (fun _ _ _ h => h) (by kernel_rfl) (fun _ => ex_move _ _ rfl (by kernel_rfl)) ?_
                        simp only [Act.put, List.setIfInBounds_toArray, List.set_cons_zero, List.set_cons_succ]
                        refine wpAny_at (i := 13) (v := .int .i64 m) (some 64) rfl rfl (by kernel_rfl) (by kernel_rfl) (by kernel_rfl) (fun _ _ _ h => h) (by kernel_rfl) (fun _ => ex_binOp .sub 3 _ _ _ (.int .i64 ((m : Int) + 1)) (.int .i64 1) _ rfl (by kernel_rfl) (by kernel_rfl) (HSB.out _)) ?_
                        simp only [Act.put, List.setIfInBounds_toArray, List.set_cons_zero, List.set_cons_succ]
                        refine wpAny_at (i := 14) (v := .pointer (some ⟨b, m, none⟩)) (some 65) rfl rfl (by kernel_rfl) (by kernel_rfl) (by kernel_rfl) (fun _ _ _ h => h) (by kernel_rfl) (fun _ => ex_indexAddr 86 _ _ (.slice (some ⟨b, 0, none⟩) (s.size + 1) (s.size + 1)) (.int .i64 m) _ rfl (by kernel_rfl) (by kernel_rfl) (HIB.out _)) ?_
                        simp only [Act.put, List.setIfInBounds_toArray, List.set_cons_zero, List.set_cons_succ]
                        refine wpAny_val 15 (some 66) (.bool false) (by kernel_rfl) rfl rfl (by kernel_rfl) (ex_load 4 _ (.pointer (some ⟨b, m, none⟩)) _ rfl (by kernel_rfl) (by go_simp)) ?_
                        simp only [Act.put, List.setIfInBounds_toArray, List.set_cons_zero, List.set_cons_succ]
                        refine wpAny_at (i := 16) (v := .bool false) (some 67) rfl rfl (by kernel_rfl) (by kernel_rfl) (by kernel_rfl) (fun _ _ _ h => h) (by kernel_rfl) (fun _ => ex_move _ _ rfl (by kernel_rfl)) ?_
                        simp only [Act.put, List.setIfInBounds_toArray, List.set_cons_zero, List.set_cons_succ]
                        refine wpAny_at (i := 17) (v := .pointer (some ⟨q, 33, none⟩)) (some 68) rfl rfl (by kernel_rfl) (by kernel_rfl) (by kernel_rfl) (fun _ _ _ h => h) (by kernel_rfl) (fun _ => ex_fieldAddr 26 _ 2 (.pointer (some ⟨q, 0, none⟩)) _ rfl (by kernel_rfl) (by go_simp)) ?_
                        simp only [Act.put, List.setIfInBounds_toArray, List.set_cons_zero, List.set_cons_succ]
                        refine wpAny_val 18 (some 69) (.bool true) (by kernel_rfl) rfl rfl (by kernel_rfl) (ex_load 4 _ (.pointer (some ⟨q, 33, none⟩)) _ rfl (by kernel_rfl) (by go_simp)) ?_
                        simp only [Act.put, List.setIfInBounds_toArray, List.set_cons_zero, List.set_cons_succ]
                        refine wpAny_at (i := 19) (v := .bool true) (some 70) rfl rfl (by kernel_rfl) (by kernel_rfl) (by kernel_rfl) (fun _ _ _ h => h) (by kernel_rfl) (fun _ => ex_move _ _ rfl (by kernel_rfl)) ?_
                        simp only [Act.put, List.setIfInBounds_toArray, List.set_cons_zero, List.set_cons_succ]
                        refine wpAny_at (i := 20) (v := .slice (some ⟨N, 0, none⟩) (s.size + 1) (s.size + 1)) (some 71) rfl rfl (by kernel_rfl) (by kernel_rfl) (by kernel_rfl) (fun _ _ _ h => h) (by kernel_rfl) (fun _ => ex_move _ _ rfl (by kernel_rfl)) ?_
                        simp only [Act.put, List.setIfInBounds_toArray, List.set_cons_zero, List.set_cons_succ]
                        refine wpAny_at (i := 21) (v := .int .i64 ((m : Int) + 1)) (some 72) rfl rfl (by kernel_rfl) (by kernel_rfl) (by kernel_rfl) (fun _ _ _ h => h) (by kernel_rfl) (fun _ => ex_move _ _ rfl (by kernel_rfl)) ?_
                        simp only [Act.put, List.setIfInBounds_toArray, List.set_cons_zero, List.set_cons_succ]
                        refine wpAny_at (i := 22) (v := .int .i64 m) (some 73) rfl rfl (by kernel_rfl) (by kernel_rfl) (by kernel_rfl) (fun _ _ _ h => h) (by kernel_rfl) (fun _ => ex_binOp .sub 3 _ _ _ (.int .i64 ((m : Int) + 1)) (.int .i64 1) _ rfl (by kernel_rfl) (by kernel_rfl) (HSB.out _)) ?_
                        simp only [Act.put, List.setIfInBounds_toArray, List.set_cons_zero, List.set_cons_succ]
                        refine wpAny_at (i := 23) (v := .pointer (some ⟨N, m, none⟩)) (some 74) rfl rfl (by kernel_rfl) (by kernel_rfl) (by kernel_rfl) (fun _ _ _ h => h) (by kernel_rfl) (fun _ => ex_indexAddr 86 _ _ (.slice (some ⟨N, 0, none⟩) (s.size + 1) (s.size + 1)) (.int .i64 m) _ rfl (by kernel_rfl) (by kernel_rfl) (HIN.out _)) ?_
                        simp only [Act.put, List.setIfInBounds_toArray, List.set_cons_zero, List.set_cons_succ]
                        refine wpAny_val 24 (some 75) (.bool true) (by kernel_rfl) rfl rfl (by kernel_rfl) (ex_load 4 _ (.pointer (some ⟨N, m, none⟩)) _ rfl (by kernel_rfl) (by go_simp)) ?_
                        simp only [Act.put, List.setIfInBounds_toArray, List.set_cons_zero, List.set_cons_succ]
                        refine wpAny_at (i := 25) (v := .bool true) (some 76) rfl rfl (by kernel_rfl) (by kernel_rfl) (by kernel_rfl) (fun _ _ _ h => h) (by kernel_rfl) (fun _ => ex_pick _ _ _ true (.bool true) (.bool false) rfl (by kernel_rfl) (by kernel_rfl) (by kernel_rfl)) ?_
                        simp only [Act.put, List.setIfInBounds_toArray, List.set_cons_zero, List.set_cons_succ]
                        refine wpAny_at (i := 26) (v := .bool true) (some 77) rfl rfl (by kernel_rfl) (by kernel_rfl) (by kernel_rfl) (fun _ _ _ h => h) (by kernel_rfl) (fun _ => ex_pick _ _ _ false (.bool true) (.bool true) rfl (by kernel_rfl) (by kernel_rfl) (by kernel_rfl)) ?_
                        simp only [Act.put, List.setIfInBounds_toArray, List.set_cons_zero, List.set_cons_succ]
                        refine wpAny_at (i := 27) (v := .bool true) (some 78) rfl rfl (by kernel_rfl) (by kernel_rfl) (by kernel_rfl) (fun _ _ _ h => h) (by kernel_rfl) (fun _ => ex_pick _ _ _ true (.bool true) (.bool false) rfl (by kernel_rfl) (by kernel_rfl) (by kernel_rfl)) ?_
                        simp only [Act.put, List.setIfInBounds_toArray, List.set_cons_zero, List.set_cons_succ]
                        refine wpAny_done (by kernel_rfl) ?_ _
                        go_wp2_with fail
                        have HR7 := Lib.hid (HR4.out.of_block (hb7.block _ HR4.out.lt))
                        have HG7 := Lib.hid (HG4.out.of_block (hb7.block _ HG4.out.lt))
                        have HA7 := Lib.hid (HA4.out.keep (hb7.block _ hq4))
                        have HB7 := Lib.hid (HB4.out.trans (hb7.mono HB4.out.size))
                        have HRE : Hid ((w7.setCell ⟨N, m + 1, none⟩ (.bool true)).rowIs N 4 (s.size + 1) (fun j => .bool (if j < m + 1 + 1 then advF x s g j else false))) := (HR7.out.set (m + 1) (.bool true)).congr fun j hj => by
                          by_cases h : j = m + 1
                          · rw [if_pos h, if_pos (by omega), h, HVE.out]
                          · rw [if_neg h, if_neg h]
                            by_cases h2 : j < m + 1
                            · rw [if_pos h2, if_pos (by omega)]
                            · rw [if_neg h2, if_neg (by omega)]
                        go_roundg (s.size + 1 - (m + 1 + 1))
                        case measure => omega
                        case rel => exact ⟨m + 1 + 1, by omega, by go_num, HRE.out, HG7.out.of_block (Below.heap_setCell _ _ _ _ (show b ≠ N by omega)), HA7.out.keep (Below.heap_setCell _ _ _ _ (show q ≠ N by omega)), HB7.out.setCell (p := ⟨N, m + 1, none⟩) (show w.heap.size ≤ N by omega) _, Nat.le_refl _⟩
                      | false =>
                        rw [hni] at HV
                        have HVE : Hid (advF x s g (m + 1) = false) := by
                          show _ = _
                          rw [HV.out]
                          exact Bool.or_false _
                        refine wp_region_at 28 #[false, false, false, false, false, false, false, false, false, false, false, false, false, false, false, false, false, false, false, false, false, false, false, false, false, false, false, false] rfl rfl (by kernel_rfl) ?_
                        refine wpAny_at (i := 0) (v := .int .i64 ((m : Int) + 1)) (some 51) rfl rfl (by kernel_rfl) (by kernel_rfl) (by kernel_rfl) (fun _ _ _ h => h) (by kernel_rfl) (fun _ => ex_move _ _ rfl (by kernel_rfl)) ?_
                        simp only [Act.put, List.setIfInBounds_toArray, List.set_cons_zero, List.set_cons_succ]
                        refine wpAny_at (i := 1) (v := .bool true) (some 52) rfl rfl (by kernel_rfl) (by kernel_rfl) (by kernel_rfl) (fun _ _ _ h => h) (by kernel_rfl) (fun _ => ex_binOp .gtr 3 _ _ _ (.int .i64 ((m : Int) + 1)) (.int .i64 0) _ rfl (by kernel_rfl) (by kernel_rfl) (HGT.out _)) ?_
                        simp only [Act.put, List.setIfInBounds_toArray, List.set_cons_zero, List.set_cons_succ]
                        refine wpAny_at (i := 2) (v := .bool true) (some 53) rfl rfl (by kernel_rfl) (by kernel_rfl) (by kernel_rfl) (fun _ _ _ h => h) (by kernel_rfl) (fun _ => ex_move _ _ rfl (by kernel_rfl)) ?_
                        simp only [Act.put, List.setIfInBounds_toArray, List.set_cons_zero, List.set_cons_succ]
                        refine wpAny_at (i := 4) (v := .string s) (some 55) rfl rfl (by kernel_rfl) (by kernel_rfl) (by kernel_rfl) (fun _ _ _ h => h) (by kernel_rfl) (fun _ => ex_move _ _ rfl (by kernel_rfl)) ?_
                        simp only [Act.put, List.setIfInBounds_toArray, List.set_cons_zero, List.set_cons_succ]
                        refine wpAny_at (i := 5) (v := .int .i64 ((m : Int) + 1)) (some 56) rfl rfl (by kernel_rfl) (by kernel_rfl) (by kernel_rfl) (fun _ _ _ h => h) (by kernel_rfl) (fun _ => ex_move _ _ rfl (by kernel_rfl)) ?_
                        simp only [Act.put, List.setIfInBounds_toArray, List.set_cons_zero, List.set_cons_succ]
                        refine wpAny_at (i := 6) (v := .int .i64 m) (some 57) rfl rfl (by kernel_rfl) (by kernel_rfl) (by kernel_rfl) (fun _ _ _ h => h) (by kernel_rfl) (fun _ => ex_binOp .sub 3 _ _ _ (.int .i64 ((m : Int) + 1)) (.int .i64 1) _ rfl (by kernel_rfl) (by kernel_rfl) (HSB.out _)) ?_
                        simp only [Act.put, List.setIfInBounds_toArray, List.set_cons_zero, List.set_cons_succ]
                        refine wpAny_at (i := 7) (v := .int .u8 (s[m].toNat)) (some 58) rfl rfl (by kernel_rfl) (by kernel_rfl) (by kernel_rfl) (fun _ _ _ h => h) (by kernel_rfl) (fun _ => ex_index 9 _ _ (.string s) (.int .i64 m) _ rfl (by kernel_rfl) (by kernel_rfl) (HIX.out _)) ?_
                        simp only [Act.put, List.setIfInBounds_toArray, List.set_cons_zero, List.set_cons_succ]
                        refine wpAny_val 3 (some 54) (.agg (atC x).toArray) (by kernel_rfl) rfl rfl (by kernel_rfl) (ex_load 26 _ (.pointer (some ⟨q, 0, none⟩)) _ rfl (by kernel_rfl) (HLD.out)) ?_
                        simp only [Act.put, List.setIfInBounds_toArray, List.set_cons_zero, List.set_cons_succ]
                        refine wpAny_call 8 (some 59) (by kernel_rfl) rfl rfl (by kernel_rfl) 82 (#[.agg (atC x).toArray, .int .u8 (s[m].toNat)]) (by go_simp) (HC.out _) ?_
                        rintro e w7 ⟨rfl, hb7⟩
                        refine ⟨_, rfl, ?_⟩
                        have qa := (HG4.out.of_block (hb7.block _ HG4.out.lt)).cell (i := m) (by omega)
                        have qn := (HR4.out.of_block (hb7.block _ HR4.out.lt)).cell (i := m) (by omega)
                        have qy := (HA4.out.keep (hb7.block _ hq4)).many
                        rw [if_neg (by omega), if_pos (by omega)] at qn
                        rw [hfi] at qa
                        rw [hmm] at qy
                        rw [hni] at qn
                        have rf7 := (HR4.out.of_block (hb7.block _ HR4.out.lt)).frozen (m + 1)
                        have r7 := (HR4.out.of_block (hb7.block _ HR4.out.lt)).cell (i := m + 1) hil
                        rw [if_pos rfl] at r7
                        change wpAny _ _ _ _ _ _ (Act.put _ (some 59) _) _
                        simp only [Act.put, List.setIfInBounds_toArray, List.set_cons_zero, List.set_cons_succ]
                        refine wpAny_at (i := 9) (v := .bool true) (some 60) rfl rfl (by kernel_rfl) (by kernel_rfl) (by kernel_rfl) (fun _ _ _ h => h) (by kernel_rfl) (fun _ => ex_pick _ _ _ true (.bool true) (.bool false) rfl (by kernel_rfl) (by kernel_rfl) (by kernel_rfl)) ?_
                        simp only [Act.put, List.setIfInBounds_toArray, List.set_cons_zero, List.set_cons_succ]
                        refine wpAny_at (i := 10) (v := .bool true) (some 61) rfl rfl (by kernel_rfl) (by kernel_rfl) (by kernel_rfl) (fun _ _ _ h => h) (by kernel_rfl) (fun _ => ex_move _ _ rfl (by kernel_rfl)) ?_
                        simp only [Act.put, List.setIfInBounds_toArray, List.set_cons_zero, List.set_cons_succ]
                        refine wpAny_at (i := 11) (v := .slice (some ⟨b, 0, none⟩) (s.size + 1) (s.size + 1)) (some 62) rfl rfl (by kernel_rfl) (by kernel_rfl) (by kernel_rfl) (fun _ _ _ h => h) (by kernel_rfl) (fun _ => ex_move _ _ rfl (by kernel_rfl)) ?_
                        simp only [Act.put, List.setIfInBounds_toArray, List.set_cons_zero, List.set_cons_succ]
                        refine wpAny_at (i := 12) (v := .int .i64 ((m : Int) + 1)) (some 63) rfl rfl (by kernel_rfl) (by kernel_rfl) (by kernel_rfl) (fun _ _ _ h => h) (by kernel_rfl) (fun _ => ex_move _ _ rfl (by kernel_rfl)) ?_
                        simp only [Act.put, List.setIfInBounds_toArray, List.set_cons_zero, List.set_cons_succ]
                        refine wpAny_at (i := 13) (v := .int .i64 m) (some 64) rfl rfl (by kernel_rfl) (by kernel_rfl) (by kernel_rfl) (fun _ _ _ h => h) (by kernel_rfl) (fun _ => ex_binOp .sub 3 _ _ _ (.int .i64 ((m : Int) + 1)) (.int .i64 1) _ rfl (by kernel_rfl) (by kernel_rfl) (HSB.out _)) ?_
                        simp only [Act.put, List.setIfInBounds_toArray, List.set_cons_zero, List.set_cons_succ]
                        refine wpAny_at (i := 14) (v := .pointer (some ⟨b, m, none⟩)) (some 65) rfl rfl (by kernel_rfl) (by kernel_rfl) (by kernel_rfl) (fun _ _ _ h => h) (by kernel_rfl) (fun _ => ex_indexAddr 86 _ _ (.slice (some ⟨b, 0, none⟩) (s.size + 1) (s.size + 1)) (.int .i64 m) _ rfl (by kernel_rfl) (by kernel_rfl) (HIB.out _)) ?_
                        simp only [Act.put, List.setIfInBounds_toArray, List.set_cons_zero, List.set_cons_succ]
                        refine wpAny_val 15 (some 66) (.bool false) (by kernel_rfl) rfl rfl (by kernel_rfl) (ex_load 4 _ (.pointer (some ⟨b, m, none⟩)) _ rfl (by kernel_rfl) (by go_simp)) ?_
                        simp only [Act.put, List.setIfInBounds_toArray, List.set_cons_zero, List.set_cons_succ]
                        refine wpAny_at (i := 16) (v := .bool false) (some 67) rfl rfl (by kernel_rfl) (by kernel_rfl) (by kernel_rfl) (fun _ _ _ h => h) (by kernel_rfl) (fun _ => ex_move _ _ rfl (by kernel_rfl)) ?_
                        simp only [Act.put, List.setIfInBounds_toArray, List.set_cons_zero, List.set_cons_succ]
                        refine wpAny_at (i := 17) (v := .pointer (some ⟨q, 33, none⟩)) (some 68) rfl rfl (by kernel_rfl) (by kernel_rfl) (by kernel_rfl) (fun _ _ _ h => h) (by kernel_rfl) (fun _ => ex_fieldAddr 26 _ 2 (.pointer (some ⟨q, 0, none⟩)) _ rfl (by kernel_rfl) (by go_simp)) ?_
                        simp only [Act.put, List.setIfInBounds_toArray, List.set_cons_zero, List.set_cons_succ]
                        refine wpAny_val 18 (some 69) (.bool true) (by kernel_rfl) rfl rfl (by kernel_rfl) (ex_load 4 _ (.pointer (some ⟨q, 33, none⟩)) _ rfl (by kernel_rfl) (by go_simp)) ?_
                        simp only [Act.put, List.setIfInBounds_toArray, List.set_cons_zero, List.set_cons_succ]
                        refine wpAny_at (i := 19) (v := .bool true) (some 70) rfl rfl (by kernel_rfl) (by kernel_rfl) (by kernel_rfl) (fun _ _ _ h => h) (by kernel_rfl) (fun _ => ex_move _ _ rfl (by kernel_rfl)) ?_
                        simp only [Act.put, List.setIfInBounds_toArray, List.set_cons_zero, List.set_cons_succ]
                        refine wpAny_at (i := 20) (v := .slice (some ⟨N, 0, none⟩) (s.size + 1) (s.size + 1)) (some 71) rfl rfl (by kernel_rfl) (by kernel_rfl) (by kernel_rfl) (fun _ _ _ h => h) (by kernel_rfl) (fun _ => ex_move _ _ rfl (by kernel_rfl)) ?_
                        simp only [Act.put, List.setIfInBounds_toArray, List.set_cons_zero, List.set_cons_succ]
                        refine wpAny_at (i := 21) (v := .int .i64 ((m : Int) + 1)) (some 72) rfl rfl (by kernel_rfl) (by kernel_rfl) (by kernel_rfl) (fun _ _ _ h => h) (by kernel_rfl) (fun _ => ex_move _ _ rfl (by kernel_rfl)) ?_
                        simp only [Act.put, List.setIfInBounds_toArray, List.set_cons_zero, List.set_cons_succ]
                        refine wpAny_at (i := 22) (v := .int .i64 m) (some 73) rfl rfl (by kernel_rfl) (by kernel_rfl) (by kernel_rfl) (fun _ _ _ h => h) (by kernel_rfl) (fun _ => ex_binOp .sub 3 _ _ _ (.int .i64 ((m : Int) + 1)) (.int .i64 1) _ rfl (by kernel_rfl) (by kernel_rfl) (HSB.out _)) ?_
                        simp only [Act.put, List.setIfInBounds_toArray, List.set_cons_zero, List.set_cons_succ]
                        refine wpAny_at (i := 23) (v := .pointer (some ⟨N, m, none⟩)) (some 74) rfl rfl (by kernel_rfl) (by kernel_rfl) (by kernel_rfl) (fun _ _ _ h => h) (by kernel_rfl) (fun _ => ex_indexAddr 86 _ _ (.slice (some ⟨N, 0, none⟩) (s.size + 1) (s.size + 1)) (.int .i64 m) _ rfl (by kernel_rfl) (by kernel_rfl) (HIN.out _)) ?_
                        simp only [Act.put, List.setIfInBounds_toArray, List.set_cons_zero, List.set_cons_succ]
                        refine wpAny_val 24 (some 75) (.bool false) (by kernel_rfl) rfl rfl (by kernel_rfl) (ex_load 4 _ (.pointer (some ⟨N, m, none⟩)) _ rfl (by kernel_rfl) (by go_simp)) ?_
                        simp only [Act.put, List.setIfInBounds_toArray, List.set_cons_zero, List.set_cons_succ]
                        refine wpAny_at (i := 25) (v := .bool false) (some 76) rfl rfl (by kernel_rfl) (by kernel_rfl) (by kernel_rfl) (fun _ _ _ h => h) (by kernel_rfl) (fun _ => ex_pick _ _ _ true (.bool false) (.bool false) rfl (by kernel_rfl) (by kernel_rfl) (by kernel_rfl)) ?_
                        simp only [Act.put, List.setIfInBounds_toArray, List.set_cons_zero, List.set_cons_succ]
                        refine wpAny_at (i := 26) (v := .bool false) (some 77) rfl rfl (by kernel_rfl) (by kernel_rfl) (by kernel_rfl) (fun _ _ _ h => h) (by kernel_rfl) (fun _ => ex_pick _ _ _ false (.bool true) (.bool false) rfl (by kernel_rfl) (by kernel_rfl) (by kernel_rfl)) ?_
                        simp only [Act.put, List.setIfInBounds_toArray, List.set_cons_zero, List.set_cons_succ]
                        refine wpAny_at (i := 27) (v := .bool false) (some 78) rfl rfl (by kernel_rfl) (by kernel_rfl) (by kernel_rfl) (fun _ _ _ h => h) (by kernel_rfl) (fun _ => ex_pick _ _ _ true (.bool false) (.bool false) rfl (by kernel_rfl) (by kernel_rfl) (by kernel_rfl)) ?_
                        simp only [Act.put, List.setIfInBounds_toArray, List.set_cons_zero, List.set_cons_succ]
                        refine wpAny_done (by kernel_rfl) ?_ _
                        go_wp2_with fail
                        have HR7 := Lib.hid (HR4.out.of_block (hb7.block _ HR4.out.lt))
                        have HG7 := Lib.hid (HG4.out.of_block (hb7.block _ HG4.out.lt))
                        have HA7 := Lib.hid (HA4.out.keep (hb7.block _ hq4))
                        have HB7 := Lib.hid (HB4.out.trans (hb7.mono HB4.out.size))
                        have HRE : Hid (w7.rowIs N 4 (s.size + 1) (fun j => .bool (if j < m + 1 + 1 then advF x s g j else false))) := HR7.out.congr fun j hj => by
                          by_cases h : j = m + 1
                          · rw [if_pos h, if_pos (by omega), h, HVE.out]
                          · rw [if_neg h]
                            by_cases h2 : j < m + 1
                            · rw [if_pos h2, if_pos (by omega)]
                            · rw [if_neg h2, if_neg (by omega)]
                        go_roundg (s.size + 1 - (m + 1 + 1))
                        case measure => omega
                        case rel => exact ⟨m + 1 + 1, by omega, by go_num, HRE.out, HG7.out, HA7.out, HB7.out, Nat.le_refl _⟩
          · obtain rfl : i = s.size + 1 := by omega
            have hii : ¬ (((s.size + 1 : Nat)) : Int) < (s.size : Int) + 1 := by omega
            have HRE : Hid (wr.rowIs N 4 (s.size + 1) (fun j => .bool (advF x s g j))) := HR.out.congr fun j hj => by rw [if_pos hj]
            go_wp2_with fail
            go_roundg (l.length - (k + 1))
            case measure => omega
            case rel => exact ⟨k + 1, N, advF x s g, rfl, by go_num, by omega, by omega, HRE.out, HX2.out, HB.out, Nat.le_refl _⟩
      · have hki2 : ¬ (k : Int) < (l.length : Int) := by omega
        have HE : Hid (g = R) := by
          have h := HX.out
          rw [List.drop_eq_nil_of_le (by omega)] at h
          exact h
        go_wp2_with fail
        go_ret
        rw [HE.out] at HG
        exact ⟨b, rfl, hbw, HG.out, HB.out⟩

end Go.Proofs.YtpboaadjbkaidaaDoor
