
/-
  Parse.
-/
import Derived.Test.YtpboaadjbkaidaaDoorMathParse
import Derived.Test.YtpboaadjbkaidaaDoorMemB
import Derived.Laws.Tables
import Derived.Great.BuildSlice
namespace Go.Proofs.YtpboaadjbkaidaaDoor
set_option maxRecDepth 100000
open Go.RowKit

set_option maxRecDepth 100000 in
theorem built_atom (p : Nat → Bool) : Tryd.prog.built 26 [(1, .int .i64 1), (0, .agg (setC p).toArray)] = some (atC ⟨p, 1, false⟩).toArray := by kernel_rfl
set_option maxRecDepth 100000 in
theorem fill_atom (x : At) : Instr.fill (fun i => some (i * 34, 34)) ((Array.range (1 * 34)).map ((Value.agg (atC ⟨noP, 0, false⟩).toArray).cells[· % (Value.agg (atC ⟨noP, 0, false⟩).toArray).cells.size]!)) [(0, .agg (atC x).toArray)] = some (atC x).toArray := by kernel_rfl
theorem atom_info : (Tryd.prog.info? 26).map (fun i => (i.zero, i.size, i.bytes)) = some (some (.agg (atC ⟨noP, 0, false⟩).toArray), 34, 48) := by kernel_rfl
/-- The atom in block g. -/
def AtIn (w : World) (g : Nat) (x : At) : Prop := w.heap[g]? = some (.cells (atC x).toArray 26)
theorem AtIn.setMn {w : World} {g : Nat} {p : Nat → Bool} {mn : Int} {many : Bool} (h : AtIn w g ⟨p, mn, many⟩) (k : Int) : AtIn (w.setCell ⟨g, 32, none⟩ (.int .i64 k)) g ⟨p, k, many⟩ := by
  unfold AtIn at *
  rw [heap_setCell_same w g 32 _ _ _ h]
  rfl
theorem AtIn.setMany {w : World} {g : Nat} {p : Nat → Bool} {mn : Int} {many : Bool} (h : AtIn w g ⟨p, mn, many⟩) (k : Bool) : AtIn (w.setCell ⟨g, 33, none⟩ (.bool k)) g ⟨p, mn, k⟩ := by
  unfold AtIn at *
  rw [heap_setCell_same w g 33 _ _ _ h]
  rfl
theorem at_zero (w : World) : AtIn (w.alloc (.cells #[.int .u8 0, .int .u8 0, .int .u8 0, .int .u8 0, .int .u8 0, .int .u8 0, .int .u8 0, .int .u8 0, .int .u8 0, .int .u8 0, .int .u8 0, .int .u8 0, .int .u8 0, .int .u8 0, .int .u8 0, .int .u8 0, .int .u8 0, .int .u8 0, .int .u8 0, .int .u8 0, .int .u8 0, .int .u8 0, .int .u8 0, .int .u8 0, .int .u8 0, .int .u8 0, .int .u8 0, .int .u8 0, .int .u8 0, .int .u8 0, .int .u8 0, .int .u8 0, .int .i64 0, .bool false] 26)) w.heap.size ⟨noP, 0, false⟩ := by
  have e : (#[.int .u8 0, .int .u8 0, .int .u8 0, .int .u8 0, .int .u8 0, .int .u8 0, .int .u8 0, .int .u8 0, .int .u8 0, .int .u8 0, .int .u8 0, .int .u8 0, .int .u8 0, .int .u8 0, .int .u8 0, .int .u8 0, .int .u8 0, .int .u8 0, .int .u8 0, .int .u8 0, .int .u8 0, .int .u8 0, .int .u8 0, .int .u8 0, .int .u8 0, .int .u8 0, .int .u8 0, .int .u8 0, .int .u8 0, .int .u8 0, .int .u8 0, .int .u8 0, .int .i64 0, .bool false] : Array Value) = (atC ⟨noP, 0, false⟩).toArray := by kernel_rfl
  rw [e]
  exact heap_alloc_new w _
theorem AtIn.row {w : World} {g : Nat} {x : At} (h : AtIn w g x) (y : At) : AtIn (w.setRow g (atC y).toArray) g y := setRow_heap w g _ _ _ _ h
theorem atom_size : (Tryd.prog.info? 26).map (·.size) = some 34 := by kernel_rfl
theorem atC_size (x : At) : (atC x).toArray.size = 34 := by rw [List.size_toArray, atC_len]
theorem atC_oneA (x : At) : (atC x).toArray.all (·.oneCell') = true := by
  rw [Array.all_eq_true_iff_forall_mem]
  intro v hv
  have h := List.mem_toArray.1 hv
  unfold atC at h
  rcases List.mem_append.1 h with h | h
  · have := (Array.all_eq_true_iff_forall_mem.1 (setC_one x.p)) v (List.mem_toArray.2 h)
    exact this
  · simp at h
    rcases h with rfl | rfl <;> rfl
theorem wpList_buildAtom {ops : Array Oper} {rest : List Oper} {o : Oper} {a : Act} {w : World} {Q : Exit → Act → World → Prop} (hg : o.guard = none) (x : Operand) (ho : o.op = .build 26 #[(1, .const (.int .i64 1)), (0, x)]) (p : Nat → Bool)
    (hx : a.eval x = .agg (setC p).toArray)
    (h : wpList Tryd.prog ops Q rest (a.put o.dst (.agg (atC ⟨p, 1, false⟩).toArray)) w) : wpList Tryd.prog ops Q (o :: rest) a w := by
  have hp : (Array.map (fun ((i, x) : Nat × Operand) => (i, a.eval x)) #[(1, .const (.int .i64 1)), (0, x)]).toList = [(1, .int .i64 1), (0, .agg (setC p).toArray)] := by
    simp only [List.map_toArray, List.map_cons, List.map_nil, hx]
    rfl
  exact wpList_build hg 26 _ ho (by rw [hp, built_atom]; rfl) (by rw [hp, built_atom]; exact h)
theorem AtIn.mn {w : World} {g : Nat} {x : At} (h : AtIn w g x) : w.cell? ⟨g, 32, none⟩ = some (.int .i64 x.mn) := by
  rw [cell_of_row _ _ _ _ _ _ h]
  simpa using atC_mn x
theorem AtIn.many {w : World} {g : Nat} {x : At} (h : AtIn w g x) : w.cell? ⟨g, 33, none⟩ = some (.bool x.many) := by
  rw [cell_of_row _ _ _ _ _ _ h]
  simpa using atC_many x
theorem AtIn.free {w : World} {g : Nat} {x : At} (h : AtIn w g x) (k : Nat) : w.frozen? ⟨g, k, none⟩ = false := frozen_of_row w g k _ _ h
theorem AtIn.keep {w w' : World} {g : Nat} {x : At} (h : AtIn w g x) (e : w'.heap[g]? = w.heap[g]?) : AtIn w' g x := e.trans h
theorem atC_one (x : At) : ∀ u ∈ atC x, u.oneCell' = true := fun u hu => (Array.all_eq_true_iff_forall_mem.1 (atC_oneA x)) u (List.mem_toArray.2 hu)
theorem below_set {a w : World} {B g : Nat} (h : Below B a w) (hg : B ≤ g) (k : Nat) (u : Value) : Below B a (w.setCell ⟨g, k, none⟩ u) := h.setCell hg _
theorem own_setAt {w : World} {B : Nat} {e : TypeId} {size n : Nat} {v : Value} {xs : List Value} {g : Nat} (h : w.ownsRow B e size v n xs) (hk : ∀ k, v.ownBlock = some k → k ≠ g) (j : Nat) (u : Value) : (w.setCell ⟨g, j, none⟩ u).ownsRow B e size v n xs :=
  own_same h fun k hv => Below.heap_setCell _ _ _ _ (hk k hv)
theorem wpList_buildOne {ops : Array Oper} {rest : List Oper} {o : Oper} {a : Act} {w : World} {Q : Exit → Act → World → Prop} (hg : o.guard = none) (x : Operand) (ho : o.op = .buildSlice 28 1 #[(0, x)]) (y : At) (hx : a.eval x = .agg (atC y).toArray)
    (h : wpList Tryd.prog ops Q rest (a.put o.dst (.slice (some ⟨w.heap.size, 0, none⟩) 1 1)) (w.alloc (.cells (atC y).toArray 26))) : wpList Tryd.prog ops Q (o :: rest) a w := by
  obtain ⟨i, hi, hz, hsize, hby⟩ := info_parts atom_info
  refine wpList_buildSlice hg 28 26 1 #[(0, x)] ho (atC y).toArray i _ Tryd.underlying28 hi hz (by rw [hsize]; decide) (by rw [hsize]; decide) ?_ h
  rw [hsize]
  simp only [List.map_toArray, List.map_cons, List.map_nil, hx]
  exact fill_atom y
/-- What a call of Parse gives. -/
def RetPar (w : World) (r : List At × Nat × Int) (e : Ending) (w' : World) : Prop := ∃ v, e = .returned (.tuple #[v, .int .i64 (r.2.1 : Nat), .int .i64 r.2.2]) ∧ OwnE 26 atC 34 w' w.heap.size v r.1 ∧ Below w.heap.size w w'

set_option maxRecDepth 100000 in
set_option maxHeartbeats 4000000 in
theorem parse_any (w : World) (s : ByteArray) (hs : s.size ≤ 2147483648) :
    Calls Tryd.prog 113 #[.string s] w (RetPar w (parseF s)) := by
  have HS0 : Hid (ScIn (w.alloc (.cells #[.string s, .int .i64 0, .bool false] 137)) w.heap.size s 0 false) := heap_alloc_new w _
  have HB0 := Lib.hid ((Below.refl w.heap.size w).alloc (Nat.le_refl _) (.cells #[.string s, .int .i64 0, .bool false] 137))
  generalize hV : parseF s = V
  have HV : Hid (parseL s (s.size + 1) 0 [] = V) := hV
  clear hV
  go_enter Tryd.func113, Tryd.ntmps113
  go_wp2_with fail
  generalize w.alloc (.cells #[.string s, .int .i64 0, .bool false] 137) = w1 at HS0 HB0 ⊢
  go_loopw [2] (fun kv wr => ∃ (i : Nat) (l : List At), Hid (ScIn wr w.heap.size s i false) ∧ i ≤ s.size ∧ l.length ≤ 32 ∧ Hid (OwnE 26 atC 34 wr (w.heap.size + 1) kv l) ∧ Hid (Below w.heap.size w wr) ∧ ∃ f, Hid (s.size - i < f ∧ parseL s f i l = V)) (fun kv _ => 33 - (match kv with | .slice _ n _ => n | _ => 0))
  case atStart => exact ⟨0, [], HS0.out, by omega, by simp, OwnE.nil, HB0.out, s.size + 1, by omega, HV.out⟩
  case round =>
    clear HS0 HB0 HV
    obtain ⟨i, l, HS, hi, hl, HO, HB, f, HX⟩ := hrel
    obtain ⟨A, cA, hkv⟩ := own_shape HO.out
    subst hkv
    obtain ⟨f', HF'⟩ : ∃ f', Hid (f = f' + 1) := ⟨f - 1, by have := HX.out.1; show _ = _; omega⟩
    by_cases hlt : i < s.size
    · have HX1 : Hid (s.size - i < f' + 1 ∧ (if 32 ≤ l.length then ([], i, 3) else if (outF s i).bad = true then ([], (outF s i).j, 2) else parseL s f' (quantF s (outF s i).j).2.2 (l ++ [⟨(outF s i).p, (quantF s (outF s i).j).1, (quantF s (outF s i).j).2.1⟩])) = V) := by
        have h := HX.out
        rw [HF'.out] at h
        unfold parseL at h
        rw [if_pos hlt] at h
        exact h
      clear HX HF'
      go_upto_region 3 with (go_at_call 120; refine (more_any _ w.heap.size s i false (by exact HS.out) (by unfold maxLen; omega)).mono ?_; rintro e w' ⟨rfl, nm, rfl⟩)
      have HS1 : Hid (ScIn (wr.drewN nm) w.heap.size s i false) := HS.out
      have HO1 : Hid (OwnE 26 atC 34 (wr.drewN nm) (w.heap.size + 1) (.slice A l.length cA) l) := HO.out
      have HB1 : Hid (Below w.heap.size w (wr.drewN nm)) := below_drewN HB.out nm
      clear HS HO HB
      generalize wr.drewN nm = w2 at HS1 HO1 HB1 ⊢
      have q1 := HS1.out.c1
      by_cases h32 : 32 ≤ l.length
      · have HVE : Hid (V = ([], i, 3)) := by show _ = _; rw [← HX1.out.2, if_pos h32]
        go_wp2_with fail
        go_ret3
        rw [HVE.out]
        exact ⟨_, rfl, OwnE.nil, HB1.out⟩
      · have HX2 : Hid (s.size - i < f' + 1 ∧ (if (outF s i).bad = true then ([], (outF s i).j, 2) else parseL s f' (quantF s (outF s i).j).2.2 (l ++ [⟨(outF s i).p, (quantF s (outF s i).j).1, (quantF s (outF s i).j).2.1⟩])) = V) := by
          have h := HX1.out
          rw [if_neg h32] at h
          exact h
        have HJ := Lib.hid (outF_ok s i hlt)
        have HE := Lib.hid (outside_any w2 w.heap.size s i HS1.out hlt hs)
        obtain ⟨⟨p0, b0, one0, j0, bad0⟩, HD⟩ : ∃ r, Hid (r = outF s i) := ⟨_, rfl⟩
        rw [← HD.out] at HX2 HJ HE
        clear HD HX1
        go_upto_region 7 with (first
          | (go_at_call 121; refine HE.out.mono ?_; rintro e w3 ⟨rfl, hs3, ho3⟩; rename_i K8 hK8; dsimp only at hs3 ⊢; refine hK8 _ _ ?_; clear hK8; refine wpList_buildAtom rfl (.tmp 22) rfl p0 rfl ?_)
          | (refine wpList_store_row rfl 26 (.tmp 7) (.tmp 23) rfl (w3.heap.size) (atC ⟨p0, 1, false⟩).toArray rfl rfl 26 (atC ⟨noP, 0, false⟩).toArray (at_zero w3) (by rw [atom_size, atC_size]) (by simp only [atC_size]) (atC_oneA _) ?_))
        have hR3 := hs3.lt
        have HS3 := Lib.hid ((hs3.below ((Below.refl _ w3).alloc (Nat.le_refl _) (.cells #[.int .u8 0, .int .u8 0, .int .u8 0, .int .u8 0, .int .u8 0, .int .u8 0, .int .u8 0, .int .u8 0, .int .u8 0, .int .u8 0, .int .u8 0, .int .u8 0, .int .u8 0, .int .u8 0, .int .u8 0, .int .u8 0, .int .u8 0, .int .u8 0, .int .u8 0, .int .u8 0, .int .u8 0, .int .u8 0, .int .u8 0, .int .u8 0, .int .u8 0, .int .u8 0, .int .u8 0, .int .u8 0, .int .u8 0, .int .u8 0, .int .u8 0, .int .u8 0, .int .i64 0, .bool false] 26))).keep (w' := (w3.alloc (.cells #[.int .u8 0, .int .u8 0, .int .u8 0, .int .u8 0, .int .u8 0, .int .u8 0, .int .u8 0, .int .u8 0, .int .u8 0, .int .u8 0, .int .u8 0, .int .u8 0, .int .u8 0, .int .u8 0, .int .u8 0, .int .u8 0, .int .u8 0, .int .u8 0, .int .u8 0, .int .u8 0, .int .u8 0, .int .u8 0, .int .u8 0, .int .u8 0, .int .u8 0, .int .u8 0, .int .u8 0, .int .u8 0, .int .u8 0, .int .u8 0, .int .u8 0, .int .u8 0, .int .i64 0, .bool false] 26)).setRow w3.heap.size (atC ⟨p0, 1, false⟩).toArray) (setRow_other _ _ _ _ (by omega)))
        have HA3 := Lib.hid ((at_zero w3).row ⟨p0, 1, false⟩)
        have HB3 : Hid (Below w.heap.size w ((w3.alloc (.cells #[.int .u8 0, .int .u8 0, .int .u8 0, .int .u8 0, .int .u8 0, .int .u8 0, .int .u8 0, .int .u8 0, .int .u8 0, .int .u8 0, .int .u8 0, .int .u8 0, .int .u8 0, .int .u8 0, .int .u8 0, .int .u8 0, .int .u8 0, .int .u8 0, .int .u8 0, .int .u8 0, .int .u8 0, .int .u8 0, .int .u8 0, .int .u8 0, .int .u8 0, .int .u8 0, .int .u8 0, .int .u8 0, .int .u8 0, .int .u8 0, .int .u8 0, .int .u8 0, .int .i64 0, .bool false] 26)).setRow w3.heap.size (atC ⟨p0, 1, false⟩).toArray)) := below_setRow ((HB1.out.trans (ho3.below (Nat.le_refl _) HB1.out.size)).alloc (Nat.le_of_lt hR3) _) (Nat.le_of_lt hR3) _
        have HO3 : Hid (OwnE 26 atC 34 ((w3.alloc (.cells #[.int .u8 0, .int .u8 0, .int .u8 0, .int .u8 0, .int .u8 0, .int .u8 0, .int .u8 0, .int .u8 0, .int .u8 0, .int .u8 0, .int .u8 0, .int .u8 0, .int .u8 0, .int .u8 0, .int .u8 0, .int .u8 0, .int .u8 0, .int .u8 0, .int .u8 0, .int .u8 0, .int .u8 0, .int .u8 0, .int .u8 0, .int .u8 0, .int .u8 0, .int .u8 0, .int .u8 0, .int .u8 0, .int .u8 0, .int .u8 0, .int .u8 0, .int .u8 0, .int .i64 0, .bool false] 26)).setRow w3.heap.size (atC ⟨p0, 1, false⟩).toArray) (w.heap.size + 1) (.slice A l.length cA) l) := own_same HO1.out fun k hk => by
          have h1 := HO1.out.lt k hk
          rw [setRow_other _ _ _ _ (by have := ho3.size; omega), Below.heap_alloc _ _ _ (by have := ho3.size; omega)]
          exact ho3.block k h1.2 (by omega)
        have hg3 : w.heap.size < w3.heap.size := hR3
        have HG : Hid (∀ k, (Value.slice A l.length cA).ownBlock = some k → k ≠ w3.heap.size) := fun k hk => by
          have h1 := HO1.out.lt k hk
          have := ho3.size
          omega
        have HGR : Hid (∀ k, (Value.slice A l.length cA).ownBlock = some k → k ≠ w.heap.size) := fun k hk => by
          have h1 := HO1.out.lt k hk
          omega
        clear hs3 ho3 HS1 HO1 HB1 HE q1 hR3
        generalize hw3 : w3.heap.size = g at HS3 HA3 HB3 HO3 hg3 HG ⊢
        generalize (w3.alloc (.cells #[.int .u8 0, .int .u8 0, .int .u8 0, .int .u8 0, .int .u8 0, .int .u8 0, .int .u8 0, .int .u8 0, .int .u8 0, .int .u8 0, .int .u8 0, .int .u8 0, .int .u8 0, .int .u8 0, .int .u8 0, .int .u8 0, .int .u8 0, .int .u8 0, .int .u8 0, .int .u8 0, .int .u8 0, .int .u8 0, .int .u8 0, .int .u8 0, .int .u8 0, .int .u8 0, .int .u8 0, .int .u8 0, .int .u8 0, .int .u8 0, .int .u8 0, .int .u8 0, .int .i64 0, .bool false] 26)).setRow g (atC ⟨p0, 1, false⟩).toArray = w4 at HS3 HA3 HB3 HO3 ⊢
        clear hw3
        have q2 := HS3.out.c2
        have q1 := HS3.out.c1
        by_cases hbad : bad0 = true
        · subst hbad
          have HVE : Hid (V = ([], j0, 2)) := by show _ = _; rw [← HX2.out.2, if_pos rfl]
          go_wp2_with fail
          go_quiet (fail)
          go_wp2_with fail
          go_ret3
          rw [HVE.out]
          exact ⟨_, rfl, OwnE.nil, below_drewN HB3.out _⟩
        · have hbad' : bad0 = false := by simpa using hbad
          subst hbad'
          have hj1 : i < j0 := (HJ.out rfl).1
          have hj2 : j0 ≤ s.size := (HJ.out rfl).2
          have HX3 : Hid (s.size - i < f' + 1 ∧ parseL s f' (quantF s j0).2.2 (l ++ [⟨p0, (quantF s j0).1, (quantF s j0).2.1⟩]) = V) := by
            have h := HX2.out
            rw [if_neg (by simp)] at h
            exact h
          clear HX2 HJ hbad q1
          by_cases hj0 : j0 < s.size
          · have hj0i : (j0 : Int) < (s.size : Int) := by omega
            go_upto_region 10 with (go_at_call 120; refine (more_any _ w.heap.size s j0 false (by exact HS3.out) (by unfold maxLen; omega)).mono ?_; rintro e w' ⟨rfl, nm, rfl⟩)
            have HS5 : Hid (ScIn (w4.drewN nm) w.heap.size s j0 false) := HS3.out
            have HA5 : Hid (AtIn (w4.drewN nm) g ⟨p0, 1, false⟩) := HA3.out
            have HO5 : Hid (OwnE 26 atC 34 (w4.drewN nm) (w.heap.size + 1) (.slice A l.length cA) l) := HO3.out
            have HB5 : Hid (Below w.heap.size w (w4.drewN nm)) := below_drewN HB3.out nm
            clear HS3 HA3 HO3 HB3 q2
            generalize w4.drewN nm = w5 at HS5 HA5 HB5 HO5 ⊢
            have q0 := HS5.out.c0
            have q1 := HS5.out.c1
            have f1 := HS5.out.free 1
            have r32 : w5.cell? ⟨g, 32, none⟩ = some (.int .i64 1) := HA5.out.mn
            have r33 : w5.cell? ⟨g, 33, none⟩ = some (.bool false) := HA5.out.many
            have g32 := HA5.out.free 32
            have g33 := HA5.out.free 33
            by_cases h42 : s[j0].toNat = 42
            · have t42 : ((s[j0].toNat : Int) == 42) = true := beq_iff_eq.2 (by omega)
              have h42' : bt s j0 = 42 := by rw [bt_get s j0 hj0]; exact h42
              clear h42
              have HQ : Hid (quantF s j0 = (0, true, j0 + 1)) := by
                show _ = _
                unfold quantF
                rw [if_pos hj0, if_pos h42']
              have HS6 : Hid (ScIn (((w5.setCell ⟨g, 32, none⟩ (.int .i64 0)).setCell ⟨g, 33, none⟩ (.bool true)).setCell ⟨w.heap.size, 1, none⟩ (.int .i64 ((j0 + 1 : Nat) : Int))) w.heap.size s (j0 + 1) false) := (((HS5.out.other (Nat.ne_of_lt hg3) 32 (.int .i64 0)).other (Nat.ne_of_lt hg3) 33 (.bool true)).set1 (j0 + 1))
              have HA6 : Hid (AtIn (((w5.setCell ⟨g, 32, none⟩ (.int .i64 0)).setCell ⟨g, 33, none⟩ (.bool true)).setCell ⟨w.heap.size, 1, none⟩ (.int .i64 ((j0 + 1 : Nat) : Int))) g ⟨p0, 0, true⟩) := (((HA5.out.setMn _).setMany _).keep (Below.heap_setCell _ ⟨w.heap.size, 1, none⟩ _ _ (Nat.ne_of_gt hg3)))
              have HB6 : Hid (Below w.heap.size w (((w5.setCell ⟨g, 32, none⟩ (.int .i64 0)).setCell ⟨g, 33, none⟩ (.bool true)).setCell ⟨w.heap.size, 1, none⟩ (.int .i64 ((j0 + 1 : Nat) : Int)))) := (below_set (below_set (below_set HB5.out (Nat.le_of_lt hg3) _ _) (Nat.le_of_lt hg3) _ _) (Nat.le_refl _) _ _)
              have HO6 : Hid (OwnE 26 atC 34 (((w5.setCell ⟨g, 32, none⟩ (.int .i64 0)).setCell ⟨g, 33, none⟩ (.bool true)).setCell ⟨w.heap.size, 1, none⟩ (.int .i64 ((j0 + 1 : Nat) : Int))) (w.heap.size + 1) (.slice A l.length cA) l) := (own_setAt (own_setAt (own_setAt HO5.out HG.out _ _) HG.out _ _) HGR.out _ _)
              go_upto_region 20 with fail
              rw [show (j0 : Int) + 1 = ((j0 + 1 : Nat) : Int) by omega]
              clear HS5 HA5 HB5 HO5 q0 q1 f1 r32 r33 g32 g33
              generalize ((w5.setCell ⟨g, 32, none⟩ (.int .i64 0)).setCell ⟨g, 33, none⟩ (.bool true)).setCell ⟨w.heap.size, 1, none⟩ (.int .i64 ((j0 + 1 : Nat) : Int)) = w6 at HS6 HA6 HB6 HO6 ⊢
              have hz6 := HS6.out.lt
              go_wp2_with (first
                | (refine wpList_load_row rfl 26 (.tmp 7) rfl (g) rfl 26 (atC ⟨p0, 0, true⟩).toArray (0, 0) _ HA6.out Tryd.underlying26 rfl (by rw [atom_size, atC_size]) ?_)
                | (refine wpList_buildOne rfl (.tmp 72) (by rfl) ⟨p0, 0, true⟩ (by rfl) ?_)
                | (refine wpList_app1 rfl (.tmp 71) (.tmp 73) 28 26 rfl Tryd.underlying28 _ 34 48 atom_info rfl (by decide) (w.heap.size + 1) (.slice A l.length cA) l.length (l.flatMap atC) rfl (own_below HO6.out ((Below.refl _ w6).alloc (Nat.le_refl _) _) (Nat.le_refl _)) ⟨w6.heap.size, 0, none⟩ 1 (atC ⟨p0, 0, true⟩) rfl (atC_len _) (cells_new w6 (atC ⟨p0, 0, true⟩) 26) (atC_one _) (by omega) (by decide) (by simp; omega) ?_; intro g2 cap w9 hown9 hbg9 hbel9 hgrow9))
              have HS9 := Lib.hid (HS6.out.keep ((hbel9 (w.heap.size + 1) w6 (Nat.le_refl _) ((Below.refl _ w6).alloc (by omega) _)).block _ (Nat.lt_succ_self _)))
              have HB9 := Lib.hid (hbel9 w.heap.size w (Nat.le_succ _) (HB6.out.alloc (by omega) _))
              have HO9 : Hid (OwnE 26 atC 34 w9 (w.heap.size + 1) (.slice (some ⟨g2, 0, none⟩) (l.length + 1) cap) (l ++ [⟨p0, 0, true⟩])) := OwnE.snoc hown9
              have HXE : Hid (s.size - (j0 + 1) < f' ∧ parseL s f' (j0 + 1) (l ++ [⟨p0, 0, true⟩]) = V) := by
                have h := HX3.out
                rw [HQ.out] at h
                exact ⟨by omega, h.2⟩
              clear hown9 hbel9 hgrow9 HX3 HQ HS6 HA6 HB6 HO6
              go_roundw
              case rel => exact ⟨(j0 + 1), l ++ [(At.mk p0 0 true)], HS9.out, by omega, by simp; omega, HO9.out, HB9.out, f', HXE.out⟩
              case measure => simp; omega
            · have t42 : ((s[j0].toNat : Int) == 42) = false := beq_eq_false_iff_ne.2 (by omega)
              have h42' : ¬ bt s j0 = 42 := by rw [bt_get s j0 hj0]; exact h42
              clear h42
              by_cases h43 : s[j0].toNat = 43
              · have t43 : ((s[j0].toNat : Int) == 43) = true := beq_iff_eq.2 (by omega)
                have h43' : bt s j0 = 43 := by rw [bt_get s j0 hj0]; exact h43
                clear h43
                have HQ : Hid (quantF s j0 = (1, true, j0 + 1)) := by
                  show _ = _
                  unfold quantF
                  rw [if_pos hj0, if_neg h42', if_pos h43']
                have HS6 : Hid (ScIn ((w5.setCell ⟨g, 33, none⟩ (.bool true)).setCell ⟨w.heap.size, 1, none⟩ (.int .i64 ((j0 + 1 : Nat) : Int))) w.heap.size s (j0 + 1) false) := ((HS5.out.other (Nat.ne_of_lt hg3) 33 (.bool true)).set1 (j0 + 1))
                have HA6 : Hid (AtIn ((w5.setCell ⟨g, 33, none⟩ (.bool true)).setCell ⟨w.heap.size, 1, none⟩ (.int .i64 ((j0 + 1 : Nat) : Int))) g ⟨p0, 1, true⟩) := ((HA5.out.setMany _).keep (Below.heap_setCell _ ⟨w.heap.size, 1, none⟩ _ _ (Nat.ne_of_gt hg3)))
                have HB6 : Hid (Below w.heap.size w ((w5.setCell ⟨g, 33, none⟩ (.bool true)).setCell ⟨w.heap.size, 1, none⟩ (.int .i64 ((j0 + 1 : Nat) : Int)))) := (below_set (below_set HB5.out (Nat.le_of_lt hg3) _ _) (Nat.le_refl _) _ _)
                have HO6 : Hid (OwnE 26 atC 34 ((w5.setCell ⟨g, 33, none⟩ (.bool true)).setCell ⟨w.heap.size, 1, none⟩ (.int .i64 ((j0 + 1 : Nat) : Int))) (w.heap.size + 1) (.slice A l.length cA) l) := (own_setAt (own_setAt HO5.out HG.out _ _) HGR.out _ _)
                go_upto_region 20 with fail
                rw [show (j0 : Int) + 1 = ((j0 + 1 : Nat) : Int) by omega]
                clear HS5 HA5 HB5 HO5 q0 q1 f1 r32 r33 g32 g33
                generalize (w5.setCell ⟨g, 33, none⟩ (.bool true)).setCell ⟨w.heap.size, 1, none⟩ (.int .i64 ((j0 + 1 : Nat) : Int)) = w6 at HS6 HA6 HB6 HO6 ⊢
                have hz6 := HS6.out.lt
                go_wp2_with (first
                  | (refine wpList_load_row rfl 26 (.tmp 7) rfl (g) rfl 26 (atC ⟨p0, 1, true⟩).toArray (0, 0) _ HA6.out Tryd.underlying26 rfl (by rw [atom_size, atC_size]) ?_)
                  | (refine wpList_buildOne rfl (.tmp 72) (by rfl) ⟨p0, 1, true⟩ (by rfl) ?_)
                  | (refine wpList_app1 rfl (.tmp 71) (.tmp 73) 28 26 rfl Tryd.underlying28 _ 34 48 atom_info rfl (by decide) (w.heap.size + 1) (.slice A l.length cA) l.length (l.flatMap atC) rfl (own_below HO6.out ((Below.refl _ w6).alloc (Nat.le_refl _) _) (Nat.le_refl _)) ⟨w6.heap.size, 0, none⟩ 1 (atC ⟨p0, 1, true⟩) rfl (atC_len _) (cells_new w6 (atC ⟨p0, 1, true⟩) 26) (atC_one _) (by omega) (by decide) (by simp; omega) ?_; intro g2 cap w9 hown9 hbg9 hbel9 hgrow9))
                have HS9 := Lib.hid (HS6.out.keep ((hbel9 (w.heap.size + 1) w6 (Nat.le_refl _) ((Below.refl _ w6).alloc (by omega) _)).block _ (Nat.lt_succ_self _)))
                have HB9 := Lib.hid (hbel9 w.heap.size w (Nat.le_succ _) (HB6.out.alloc (by omega) _))
                have HO9 : Hid (OwnE 26 atC 34 w9 (w.heap.size + 1) (.slice (some ⟨g2, 0, none⟩) (l.length + 1) cap) (l ++ [⟨p0, 1, true⟩])) := OwnE.snoc hown9
                have HXE : Hid (s.size - (j0 + 1) < f' ∧ parseL s f' (j0 + 1) (l ++ [⟨p0, 1, true⟩]) = V) := by
                  have h := HX3.out
                  rw [HQ.out] at h
                  exact ⟨by omega, h.2⟩
                clear hown9 hbel9 hgrow9 HX3 HQ HS6 HA6 HB6 HO6
                go_roundw
                case rel => exact ⟨(j0 + 1), l ++ [(At.mk p0 1 true)], HS9.out, by omega, by simp; omega, HO9.out, HB9.out, f', HXE.out⟩
                case measure => simp; omega
              · have t43 : ((s[j0].toNat : Int) == 43) = false := beq_eq_false_iff_ne.2 (by omega)
                have h43' : ¬ bt s j0 = 43 := by rw [bt_get s j0 hj0]; exact h43
                clear h43
                by_cases h63 : s[j0].toNat = 63
                · have t63 : ((s[j0].toNat : Int) == 63) = true := beq_iff_eq.2 (by omega)
                  have h63' : bt s j0 = 63 := by rw [bt_get s j0 hj0]; exact h63
                  clear h63
                  have HQ : Hid (quantF s j0 = (0, false, j0 + 1)) := by
                    show _ = _
                    unfold quantF
                    rw [if_pos hj0, if_neg h42', if_neg h43', if_pos h63']
                  have HS6 : Hid (ScIn ((w5.setCell ⟨g, 32, none⟩ (.int .i64 0)).setCell ⟨w.heap.size, 1, none⟩ (.int .i64 ((j0 + 1 : Nat) : Int))) w.heap.size s (j0 + 1) false) := ((HS5.out.other (Nat.ne_of_lt hg3) 32 (.int .i64 0)).set1 (j0 + 1))
                  have HA6 : Hid (AtIn ((w5.setCell ⟨g, 32, none⟩ (.int .i64 0)).setCell ⟨w.heap.size, 1, none⟩ (.int .i64 ((j0 + 1 : Nat) : Int))) g ⟨p0, 0, false⟩) := ((HA5.out.setMn _).keep (Below.heap_setCell _ ⟨w.heap.size, 1, none⟩ _ _ (Nat.ne_of_gt hg3)))
                  have HB6 : Hid (Below w.heap.size w ((w5.setCell ⟨g, 32, none⟩ (.int .i64 0)).setCell ⟨w.heap.size, 1, none⟩ (.int .i64 ((j0 + 1 : Nat) : Int)))) := (below_set (below_set HB5.out (Nat.le_of_lt hg3) _ _) (Nat.le_refl _) _ _)
                  have HO6 : Hid (OwnE 26 atC 34 ((w5.setCell ⟨g, 32, none⟩ (.int .i64 0)).setCell ⟨w.heap.size, 1, none⟩ (.int .i64 ((j0 + 1 : Nat) : Int))) (w.heap.size + 1) (.slice A l.length cA) l) := (own_setAt (own_setAt HO5.out HG.out _ _) HGR.out _ _)
                  go_upto_region 20 with fail
                  rw [show (j0 : Int) + 1 = ((j0 + 1 : Nat) : Int) by omega]
                  clear HS5 HA5 HB5 HO5 q0 q1 f1 r32 r33 g32 g33
                  generalize (w5.setCell ⟨g, 32, none⟩ (.int .i64 0)).setCell ⟨w.heap.size, 1, none⟩ (.int .i64 ((j0 + 1 : Nat) : Int)) = w6 at HS6 HA6 HB6 HO6 ⊢
                  have hz6 := HS6.out.lt
                  go_wp2_with (first
                    | (refine wpList_load_row rfl 26 (.tmp 7) rfl (g) rfl 26 (atC ⟨p0, 0, false⟩).toArray (0, 0) _ HA6.out Tryd.underlying26 rfl (by rw [atom_size, atC_size]) ?_)
                    | (refine wpList_buildOne rfl (.tmp 72) (by rfl) ⟨p0, 0, false⟩ (by rfl) ?_)
                    | (refine wpList_app1 rfl (.tmp 71) (.tmp 73) 28 26 rfl Tryd.underlying28 _ 34 48 atom_info rfl (by decide) (w.heap.size + 1) (.slice A l.length cA) l.length (l.flatMap atC) rfl (own_below HO6.out ((Below.refl _ w6).alloc (Nat.le_refl _) _) (Nat.le_refl _)) ⟨w6.heap.size, 0, none⟩ 1 (atC ⟨p0, 0, false⟩) rfl (atC_len _) (cells_new w6 (atC ⟨p0, 0, false⟩) 26) (atC_one _) (by omega) (by decide) (by simp; omega) ?_; intro g2 cap w9 hown9 hbg9 hbel9 hgrow9))
                  have HS9 := Lib.hid (HS6.out.keep ((hbel9 (w.heap.size + 1) w6 (Nat.le_refl _) ((Below.refl _ w6).alloc (by omega) _)).block _ (Nat.lt_succ_self _)))
                  have HB9 := Lib.hid (hbel9 w.heap.size w (Nat.le_succ _) (HB6.out.alloc (by omega) _))
                  have HO9 : Hid (OwnE 26 atC 34 w9 (w.heap.size + 1) (.slice (some ⟨g2, 0, none⟩) (l.length + 1) cap) (l ++ [⟨p0, 0, false⟩])) := OwnE.snoc hown9
                  have HXE : Hid (s.size - (j0 + 1) < f' ∧ parseL s f' (j0 + 1) (l ++ [⟨p0, 0, false⟩]) = V) := by
                    have h := HX3.out
                    rw [HQ.out] at h
                    exact ⟨by omega, h.2⟩
                  clear hown9 hbel9 hgrow9 HX3 HQ HS6 HA6 HB6 HO6
                  go_roundw
                  case rel => exact ⟨(j0 + 1), l ++ [(At.mk p0 0 false)], HS9.out, by omega, by simp; omega, HO9.out, HB9.out, f', HXE.out⟩
                  case measure => simp; omega
                · have t63 : ((s[j0].toNat : Int) == 63) = false := beq_eq_false_iff_ne.2 (by omega)
                  have h63' : ¬ bt s j0 = 63 := by rw [bt_get s j0 hj0]; exact h63
                  clear h63
                  have HQ : Hid (quantF s j0 = (1, false, j0)) := by
                    show _ = _
                    unfold quantF
                    rw [if_pos hj0, if_neg h42', if_neg h43', if_neg h63']
                  go_upto_region 20 with fail
                  clear q0 q1 f1 r32 r33 g32 g33
                  have hz5 := HS5.out.lt
                  go_wp2_with (first
                    | (refine wpList_load_row rfl 26 (.tmp 7) rfl (g) rfl 26 (atC ⟨p0, 1, false⟩).toArray (0, 0) _ HA5.out Tryd.underlying26 rfl (by rw [atom_size, atC_size]) ?_)
                    | (refine wpList_buildOne rfl (.tmp 72) (by rfl) ⟨p0, 1, false⟩ (by rfl) ?_)
                    | (refine wpList_app1 rfl (.tmp 71) (.tmp 73) 28 26 rfl Tryd.underlying28 _ 34 48 atom_info rfl (by decide) (w.heap.size + 1) (.slice A l.length cA) l.length (l.flatMap atC) rfl (own_below HO5.out ((Below.refl _ w5).alloc (Nat.le_refl _) _) (Nat.le_refl _)) ⟨w5.heap.size, 0, none⟩ 1 (atC ⟨p0, 1, false⟩) rfl (atC_len _) (cells_new w5 (atC ⟨p0, 1, false⟩) 26) (atC_one _) (by omega) (by decide) (by simp; omega) ?_; intro g2 cap w9 hown9 hbg9 hbel9 hgrow9))
                  have HS9 := Lib.hid (HS5.out.keep ((hbel9 (w.heap.size + 1) w5 (Nat.le_refl _) ((Below.refl _ w5).alloc (by omega) _)).block _ (Nat.lt_succ_self _)))
                  have HB9 := Lib.hid (hbel9 w.heap.size w (Nat.le_succ _) (HB5.out.alloc (by omega) _))
                  have HO9 : Hid (OwnE 26 atC 34 w9 (w.heap.size + 1) (.slice (some ⟨g2, 0, none⟩) (l.length + 1) cap) (l ++ [⟨p0, 1, false⟩])) := OwnE.snoc hown9
                  have HXE : Hid (s.size - j0 < f' ∧ parseL s f' j0 (l ++ [⟨p0, 1, false⟩]) = V) := by
                    have h := HX3.out
                    rw [HQ.out] at h
                    exact ⟨by omega, h.2⟩
                  clear hown9 hbel9 hgrow9 HX3 HQ HS5 HA5 HB5 HO5
                  go_roundw
                  case rel => exact ⟨j0, l ++ [(At.mk p0 1 false)], HS9.out, by omega, by simp; omega, HO9.out, HB9.out, f', HXE.out⟩
                  case measure => simp; omega
          · have HQ : Hid (quantF s j0 = (1, false, j0)) := by
              show _ = _
              unfold quantF
              rw [if_neg hj0]
            go_upto_region 20 with (go_at_call 120; refine (more_any _ w.heap.size s j0 false (by exact HS3.out) (by unfold maxLen; omega)).mono ?_; rintro e w' ⟨rfl, nm, rfl⟩)
            have HS5 : Hid (ScIn (w4.drewN nm) w.heap.size s j0 false) := HS3.out
            have HA5 : Hid (AtIn (w4.drewN nm) g ⟨p0, 1, false⟩) := HA3.out
            have HO5 : Hid (OwnE 26 atC 34 (w4.drewN nm) (w.heap.size + 1) (.slice A l.length cA) l) := HO3.out
            have HB5 : Hid (Below w.heap.size w (w4.drewN nm)) := below_drewN HB3.out nm
            clear HS3 HA3 HO3 HB3 q2
            generalize w4.drewN nm = w5 at HS5 HA5 HB5 HO5 ⊢
            have hz5 := HS5.out.lt
            go_wp2_with (first
              | (refine wpList_load_row rfl 26 (.tmp 7) rfl (g) rfl 26 (atC ⟨p0, 1, false⟩).toArray (0, 0) _ HA5.out Tryd.underlying26 rfl (by rw [atom_size, atC_size]) ?_)
              | (refine wpList_buildOne rfl (.tmp 72) (by rfl) ⟨p0, 1, false⟩ (by rfl) ?_)
              | (refine wpList_app1 rfl (.tmp 71) (.tmp 73) 28 26 rfl Tryd.underlying28 _ 34 48 atom_info rfl (by decide) (w.heap.size + 1) (.slice A l.length cA) l.length (l.flatMap atC) rfl (own_below HO5.out ((Below.refl _ w5).alloc (Nat.le_refl _) _) (Nat.le_refl _)) ⟨w5.heap.size, 0, none⟩ 1 (atC ⟨p0, 1, false⟩) rfl (atC_len _) (cells_new w5 (atC ⟨p0, 1, false⟩) 26) (atC_one _) (by omega) (by decide) (by simp; omega) ?_; intro g2 cap w9 hown9 hbg9 hbel9 hgrow9))
            have HS9 := Lib.hid (HS5.out.keep ((hbel9 (w.heap.size + 1) w5 (Nat.le_refl _) ((Below.refl _ w5).alloc (by omega) _)).block _ (Nat.lt_succ_self _)))
            have HB9 := Lib.hid (hbel9 w.heap.size w (Nat.le_succ _) (HB5.out.alloc (by omega) _))
            have HO9 : Hid (OwnE 26 atC 34 w9 (w.heap.size + 1) (.slice (some ⟨g2, 0, none⟩) (l.length + 1) cap) (l ++ [⟨p0, 1, false⟩])) := OwnE.snoc hown9
            have HXE : Hid (s.size - j0 < f' ∧ parseL s f' j0 (l ++ [⟨p0, 1, false⟩]) = V) := by
              have h := HX3.out
              rw [HQ.out] at h
              exact ⟨by omega, h.2⟩
            clear hown9 hbel9 hgrow9 HX3 HQ HS5 HA5 HB5 HO5
            go_roundw
            case rel => exact ⟨j0, l ++ [(At.mk p0 1 false)], HS9.out, by omega, by simp; omega, HO9.out, HB9.out, f', HXE.out⟩
            case measure => simp; omega
    · have HVE : Hid (V = (l, 0, 0)) := by
        have h := HX.out.2
        rw [HF'.out] at h
        unfold parseL at h
        rw [if_neg hlt] at h
        exact h.symm
      go_wp2_with (go_at_call 120; refine (more_any _ w.heap.size s i false (by exact HS.out) (by unfold maxLen; omega)).mono ?_; rintro e w' ⟨rfl, nm, rfl⟩)
      go_ret3
      rw [HVE.out]
      exact ⟨_, rfl, own_base HO.out (Nat.le_succ _), below_drewN HB.out _⟩

end Go.Proofs.YtpboaadjbkaidaaDoor
