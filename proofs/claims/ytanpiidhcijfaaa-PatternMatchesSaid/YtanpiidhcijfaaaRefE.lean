
/-
  The reference's Parse.
-/
import Derived.Test.YtanpiidhcijfaaaRefD
import Derived.Test.YtanpiidhcijfaaaScanH
namespace Go.Proofs.Ytanpiidhcijfaaa
open Go.RowKit

set_option maxRecDepth 100000 in
theorem built_atom2 (p : Nat → Bool) : Try.prog.built 37 [(0, .agg (setC p).toArray), (1, .int .i64 1)] = some (atC ⟨p, 1, false⟩).toArray := by kernel_rfl
theorem wpList_buildAtom2 {ops : Array Oper} {rest : List Oper} {o : Oper} {a : Act} {w : World} {Q : Exit → Act → World → Prop} (hg : o.guard = none) (x : Operand) (ho : o.op = .build 37 #[(0, x), (1, .const (.int .i64 1))]) (p : Nat → Bool)
    (hx : a.eval x = .agg (setC p).toArray)
    (h : wpList Try.prog ops Q rest (a.put o.dst (.agg (atC ⟨p, 1, false⟩).toArray)) w) : wpList Try.prog ops Q (o :: rest) a w := by
  have hp : (Array.map (fun ((i, x) : Nat × Operand) => (i, a.eval x)) #[(0, x), (1, .const (.int .i64 1))]).toList = [(0, .agg (setC p).toArray), (1, .int .i64 1)] := by
    simp only [List.map_toArray, List.map_cons, List.map_nil, hx]
    rfl
  exact wpList_build hg 37 _ ho (by rw [hp, built_atom2]; rfl) (by rw [hp, built_atom2]; exact h)

set_option maxRecDepth 100000 in
set_option maxHeartbeats 8000000 in
theorem rparse_any (w : World) (s : ByteArray) (hs : s.size ≤ 2147483648) :
    Calls Try.prog 15 #[.string s] w (RetPar w (parseF s)) := by
  generalize hV : parseF s = V
  have HV : Hid (parseL s (s.size + 1) 0 [] = V) := hV
  clear hV
  go_enter Try.func15, Try.ntmps15
  go_wp2_with fail
  go_loopg [5, 6] 33 (fun n kv iv wr => ∃ (i : Nat) (l : List At), iv = .int .i64 i ∧ i ≤ s.size ∧ l.length ≤ 32 ∧ Hid (OwnE 37 atC 34 wr w.heap.size kv l) ∧ Hid (Below w.heap.size w wr) ∧ (∃ f, Hid (s.size - i < f ∧ parseL s f i l = V)) ∧ 33 - l.length ≤ n)
  case atStart => exact ⟨0, [], rfl, by omega, by simp, OwnE.nil, Below.refl _ _, ⟨s.size + 1, by omega, HV.out⟩, by simp⟩
  case round =>
    clear HV
    obtain ⟨i, l, rfl, hi, hl, HO, HB, ⟨f, HX⟩, hgk⟩ := hrel
    obtain ⟨A, cA, hkv⟩ := own_shape HO.out
    subst hkv
    obtain ⟨f', HF'⟩ : ∃ f', Hid (f = f' + 1) := ⟨f - 1, by have := HX.out.1; show _ = _; omega⟩
    by_cases hlt : i < s.size
    · have hlti : (i : Int) < (s.size : Int) := by omega
      have HX1 : Hid (s.size - i < f' + 1 ∧ (if 32 ≤ l.length then ([], i, 3) else if (outF s i).bad = true then ([], (outF s i).j, 2) else parseL s f' (quantF s (outF s i).j).2.2 (l ++ [⟨(outF s i).p, (quantF s (outF s i).j).1, (quantF s (outF s i).j).2.1⟩])) = V) := by
        have h := HX.out
        rw [HF'.out] at h
        unfold parseL at h
        rw [if_pos hlt] at h
        exact h
      clear HX HF'
      by_cases h32 : 32 ≤ l.length
      · have HVE : Hid (V = ([], i, 3)) := by show _ = _; rw [← HX1.out.2, if_pos h32]
        have t32 : ((l.length : Int) == 32) = true := beq_iff_eq.2 (by omega)
        go_wp2_with fail
        go_ret3
        rw [HVE.out]
        exact ⟨_, rfl, OwnE.nil, HB.out⟩
      · have HX2 : Hid (s.size - i < f' + 1 ∧ (if (outF s i).bad = true then ([], (outF s i).j, 2) else parseL s f' (quantF s (outF s i).j).2.2 (l ++ [⟨(outF s i).p, (quantF s (outF s i).j).1, (quantF s (outF s i).j).2.1⟩])) = V) := by
          have h := HX1.out
          rw [if_neg h32] at h
          exact h
        have t32 : ((l.length : Int) == 32) = false := beq_eq_false_iff_ne.2 (by omega)
        have HJ := Lib.hid (outF_ok s i hlt)
        obtain ⟨r, HRR⟩ : ∃ r, Hid (outF s i = r) := ⟨_, rfl⟩
        rw [HRR.out] at HX2 HJ
        clear HX1
        by_cases hb : r.bad = true
        · have HE := Lib.hid ((rset_any wr s i hlt hs).mono fun e w' h => RetSet.no h (by rw [HRR.out]; exact hb))
          rw [HRR.out] at HE
          have HVE : Hid (V = ([], r.j, 2)) := by show _ = _; rw [← HX2.out.2, if_pos hb]
          clear hb HX2 HJ HRR
          have hz0 := HB.out.size
          go_wp2_with (first
            | (go_at_call 35; refine HE.out.mono ?_; rintro e w3 ⟨⟨p, rfl⟩, hb3⟩)
            | (refine wpList_store_row rfl 35 (.tmp 7) (.tmp 23) rfl (w3.heap.size) (setC p).toArray rfl rfl 35 (setC noP).toArray (zero_in w3 35) (by rw [rset_size, setC_size]) (by simp only [setC_size]) (setC_one _) ?_))
          go_ret3
          rw [HVE.out]
          exact ⟨_, rfl, OwnE.nil, below_setRow ((HB.out.trans (hb3.mono hz0)).alloc (Nat.le_trans hz0 hb3.size) _) (Nat.le_trans hz0 hb3.size) _⟩
        · have hb' : r.bad = false := by simpa using hb
          have HE := Lib.hid ((rset_any wr s i hlt hs).mono fun e w' h => RetSet.ok h (by rw [HRR.out]; exact hb'))
          rw [HRR.out] at HE
          have hj1 : i < r.j := (HJ.out hb').1
          have hj2 : r.j ≤ s.size := (HJ.out hb').2
          have HX3 : Hid (s.size - i < f' + 1 ∧ parseL s f' (quantF s r.j).2.2 (l ++ [⟨r.p, (quantF s r.j).1, (quantF s r.j).2.1⟩]) = V) := by
            have h := HX2.out
            rw [if_neg hb] at h
            exact h
          clear hb hb' HX2 HJ HRR
          generalize r.j = j0 at HE hj1 hj2 HX3
          generalize r.p = p0 at HE HX3
          go_upto_region 9 with (first
            | (go_at_call 35; refine HE.out.mono ?_; rintro e w3 ⟨rfl, hb3⟩)
            | (refine wpList_store_row rfl 35 (.tmp 7) (.tmp 23) rfl (w3.heap.size) (setC p0).toArray rfl rfl 35 (setC noP).toArray (zero_in w3 35) (by rw [rset_size, setC_size]) (by simp only [setC_size]) (setC_one _) ?_))
          have hz0 := HB.out.size
          have hz3 := hb3.size
          have HC5 : Hid (SetIn ((w3.alloc (.cells #[.int .u8 0, .int .u8 0, .int .u8 0, .int .u8 0, .int .u8 0, .int .u8 0, .int .u8 0, .int .u8 0, .int .u8 0, .int .u8 0, .int .u8 0, .int .u8 0, .int .u8 0, .int .u8 0, .int .u8 0, .int .u8 0, .int .u8 0, .int .u8 0, .int .u8 0, .int .u8 0, .int .u8 0, .int .u8 0, .int .u8 0, .int .u8 0, .int .u8 0, .int .u8 0, .int .u8 0, .int .u8 0, .int .u8 0, .int .u8 0, .int .u8 0, .int .u8 0] 35)).setRow w3.heap.size (setC p0).toArray) w3.heap.size 35 p0) := (zero_in w3 35).row p0
          have HB5 : Hid (Below w.heap.size w ((w3.alloc (.cells #[.int .u8 0, .int .u8 0, .int .u8 0, .int .u8 0, .int .u8 0, .int .u8 0, .int .u8 0, .int .u8 0, .int .u8 0, .int .u8 0, .int .u8 0, .int .u8 0, .int .u8 0, .int .u8 0, .int .u8 0, .int .u8 0, .int .u8 0, .int .u8 0, .int .u8 0, .int .u8 0, .int .u8 0, .int .u8 0, .int .u8 0, .int .u8 0, .int .u8 0, .int .u8 0, .int .u8 0, .int .u8 0, .int .u8 0, .int .u8 0, .int .u8 0, .int .u8 0] 35)).setRow w3.heap.size (setC p0).toArray)) := below_setRow ((HB.out.trans (hb3.mono hz0)).alloc (by omega) _) (by omega) _
          have HO5 : Hid (OwnE 37 atC 34 ((w3.alloc (.cells #[.int .u8 0, .int .u8 0, .int .u8 0, .int .u8 0, .int .u8 0, .int .u8 0, .int .u8 0, .int .u8 0, .int .u8 0, .int .u8 0, .int .u8 0, .int .u8 0, .int .u8 0, .int .u8 0, .int .u8 0, .int .u8 0, .int .u8 0, .int .u8 0, .int .u8 0, .int .u8 0, .int .u8 0, .int .u8 0, .int .u8 0, .int .u8 0, .int .u8 0, .int .u8 0, .int .u8 0, .int .u8 0, .int .u8 0, .int .u8 0, .int .u8 0, .int .u8 0] 35)).setRow w3.heap.size (setC p0).toArray) w.heap.size (.slice A l.length cA) l) := own_same HO.out fun k hk => by
            have h1 := HO.out.lt k hk
            rw [setRow_other _ _ _ _ (by omega), Below.heap_alloc _ _ _ (by omega)]
            exact hb3.block k h1.2
          have hg5 : w.heap.size ≤ w3.heap.size := by omega
          have hs5 : ((w3.alloc (.cells #[.int .u8 0, .int .u8 0, .int .u8 0, .int .u8 0, .int .u8 0, .int .u8 0, .int .u8 0, .int .u8 0, .int .u8 0, .int .u8 0, .int .u8 0, .int .u8 0, .int .u8 0, .int .u8 0, .int .u8 0, .int .u8 0, .int .u8 0, .int .u8 0, .int .u8 0, .int .u8 0, .int .u8 0, .int .u8 0, .int .u8 0, .int .u8 0, .int .u8 0, .int .u8 0, .int .u8 0, .int .u8 0, .int .u8 0, .int .u8 0, .int .u8 0, .int .u8 0] 35)).setRow w3.heap.size (setC p0).toArray).heap.size = w3.heap.size + 1 := by simp
          clear HB HO HE hb3 hz0 hz3
          generalize hw3 : w3.heap.size = g7 at HC5 HB5 HO5 hg5 hs5 ⊢
          generalize (w3.alloc (.cells #[.int .u8 0, .int .u8 0, .int .u8 0, .int .u8 0, .int .u8 0, .int .u8 0, .int .u8 0, .int .u8 0, .int .u8 0, .int .u8 0, .int .u8 0, .int .u8 0, .int .u8 0, .int .u8 0, .int .u8 0, .int .u8 0, .int .u8 0, .int .u8 0, .int .u8 0, .int .u8 0, .int .u8 0, .int .u8 0, .int .u8 0, .int .u8 0, .int .u8 0, .int .u8 0, .int .u8 0, .int .u8 0, .int .u8 0, .int .u8 0, .int .u8 0, .int .u8 0] 35)).setRow g7 (setC p0).toArray = w5 at HC5 HB5 HO5 hs5 ⊢
          clear hw3
          have hg6 : w.heap.size ≤ w5.heap.size := by omega
          have HG : Hid (∀ k, (Value.slice A l.length cA).ownBlock = some k → k ≠ w5.heap.size) := fun k hk => by
            have h1 := HO5.out.lt k hk
            omega
          clear hs5
          go_upto_region 10 with (first
            | ((refine wpList_load_row rfl 35 (.tmp 7) rfl (g7) rfl 35 (setC p0).toArray (0, 0) _ HC5.out Try.underlying35 rfl (by rw [rset_size, setC_size]) ?_); refine wpList_buildAtom2 rfl (.tmp 29) rfl p0 rfl ?_)
            | (refine wpList_store_row rfl 37 (.tmp 10) (.tmp 30) rfl (w5.heap.size) (atC ⟨p0, 1, false⟩).toArray rfl rfl 37 (atC ⟨noP, 0, false⟩).toArray (at_zero w5) (by rw [atom_size, atC_size]) (by simp only [atC_size]) (atC_oneA _) ?_))
          have HA6 := Lib.hid ((at_zero w5).row ⟨p0, 1, false⟩)
          have HB6 : Hid (Below w.heap.size w ((w5.alloc (.cells #[.int .u8 0, .int .u8 0, .int .u8 0, .int .u8 0, .int .u8 0, .int .u8 0, .int .u8 0, .int .u8 0, .int .u8 0, .int .u8 0, .int .u8 0, .int .u8 0, .int .u8 0, .int .u8 0, .int .u8 0, .int .u8 0, .int .u8 0, .int .u8 0, .int .u8 0, .int .u8 0, .int .u8 0, .int .u8 0, .int .u8 0, .int .u8 0, .int .u8 0, .int .u8 0, .int .u8 0, .int .u8 0, .int .u8 0, .int .u8 0, .int .u8 0, .int .u8 0, .int .i64 0, .bool false] 37)).setRow w5.heap.size (atC ⟨p0, 1, false⟩).toArray)) := below_setRow (HB5.out.alloc hg6 _) hg6 _
          have HO6 : Hid (OwnE 37 atC 34 ((w5.alloc (.cells #[.int .u8 0, .int .u8 0, .int .u8 0, .int .u8 0, .int .u8 0, .int .u8 0, .int .u8 0, .int .u8 0, .int .u8 0, .int .u8 0, .int .u8 0, .int .u8 0, .int .u8 0, .int .u8 0, .int .u8 0, .int .u8 0, .int .u8 0, .int .u8 0, .int .u8 0, .int .u8 0, .int .u8 0, .int .u8 0, .int .u8 0, .int .u8 0, .int .u8 0, .int .u8 0, .int .u8 0, .int .u8 0, .int .u8 0, .int .u8 0, .int .u8 0, .int .u8 0, .int .i64 0, .bool false] 37)).setRow w5.heap.size (atC ⟨p0, 1, false⟩).toArray) w.heap.size (.slice A l.length cA) l) := own_same HO5.out fun k hk => by
            have h1 := HO5.out.lt k hk
            rw [setRow_other _ _ _ _ (by omega), Below.heap_alloc _ _ _ (by omega)]
          have hg3 := hg6
          clear HB5 HO5 HC5 hg5 hg6
          generalize hw5 : w5.heap.size = g at HA6 HB6 HO6 HG hg3 ⊢
          generalize (w5.alloc (.cells #[.int .u8 0, .int .u8 0, .int .u8 0, .int .u8 0, .int .u8 0, .int .u8 0, .int .u8 0, .int .u8 0, .int .u8 0, .int .u8 0, .int .u8 0, .int .u8 0, .int .u8 0, .int .u8 0, .int .u8 0, .int .u8 0, .int .u8 0, .int .u8 0, .int .u8 0, .int .u8 0, .int .u8 0, .int .u8 0, .int .u8 0, .int .u8 0, .int .u8 0, .int .u8 0, .int .u8 0, .int .u8 0, .int .u8 0, .int .u8 0, .int .u8 0, .int .u8 0, .int .i64 0, .bool false] 37)).setRow g (atC ⟨p0, 1, false⟩).toArray = w6 at HA6 HB6 HO6 ⊢
          clear hw5
          have r32 : w6.cell? ⟨g, 32, none⟩ = some (.int .i64 1) := HA6.out.mn
          have r33 : w6.cell? ⟨g, 33, none⟩ = some (.bool false) := HA6.out.many
          have g32 := HA6.out.free 32
          have g33 := HA6.out.free 33
          by_cases hj0 : j0 < s.size
          · have hj0i : (j0 : Int) < (s.size : Int) := by omega
            by_cases h42 : s[j0].toNat = 42
            · have t42 : ((s[j0].toNat : Int) == 42) = true := beq_iff_eq.2 (by omega)
              have h42' : bt s j0 = 42 := by rw [bt_get s j0 hj0]; exact h42
              clear h42
              have HQ : Hid (quantF s j0 = (0, true, j0 + 1)) := by
                show _ = _
                unfold quantF
                rw [if_pos hj0, if_pos h42']
              have HA7 : Hid (AtIn ((w6.setCell ⟨g, 32, none⟩ (.int .i64 0)).setCell ⟨g, 33, none⟩ (.bool true)) g ⟨p0, 0, true⟩) := ((HA6.out.setMn _).setMany _)
              have HB7 : Hid (Below w.heap.size w ((w6.setCell ⟨g, 32, none⟩ (.int .i64 0)).setCell ⟨g, 33, none⟩ (.bool true))) := (below_set (below_set HB6.out hg3 _ _) hg3 _ _)
              have HO7 : Hid (OwnE 37 atC 34 ((w6.setCell ⟨g, 32, none⟩ (.int .i64 0)).setCell ⟨g, 33, none⟩ (.bool true)) w.heap.size (.slice A l.length cA) l) := (own_setAt (own_setAt HO6.out HG.out _ _) HG.out _ _)
              go_upto_region 21 with fail
              clear HA6 HB6 HO6 r32 r33 g32 g33
              generalize (w6.setCell ⟨g, 32, none⟩ (.int .i64 0)).setCell ⟨g, 33, none⟩ (.bool true) = w7 at HA7 HB7 HO7 ⊢
              have hz7 : w.heap.size ≤ w7.heap.size := HB7.out.size
              go_wp2_with (first
                | (refine wpList_load_row rfl 37 (.tmp 10) rfl (g) rfl 37 (atC ⟨p0, 0, true⟩).toArray (0, 0) _ HA7.out Try.underlying37 rfl (by rw [atom_size, atC_size]) ?_)
                | (refine wpList_buildOne rfl (.tmp 55) (by rfl) ⟨p0, 0, true⟩ (by rfl) ?_)
                | (refine wpList_app1 rfl (.tmp 54) (.tmp 56) 26 37 rfl Try.underlying26 _ 34 48 atom_info rfl (by decide) w.heap.size (.slice A l.length cA) l.length (l.flatMap atC) rfl (own_below HO7.out ((Below.refl _ w7).alloc (Nat.le_refl _) _) (Nat.le_refl _)) ⟨w7.heap.size, 0, none⟩ 1 (atC ⟨p0, 0, true⟩) rfl (atC_len _) (cells_new w7 (atC ⟨p0, 0, true⟩) 37) (atC_one _) (by omega) (by decide) (by simp; omega) ?_; intro g2 cap w9 hown9 hbg9 hbel9 hgrow9))
              have HB9 := Lib.hid (hbel9 w.heap.size w (Nat.le_refl _) (HB7.out.alloc (by omega) _))
              have HO9 : Hid (OwnE 37 atC 34 w9 w.heap.size (.slice (some ⟨g2, 0, none⟩) (l.length + 1) cap) (l ++ [⟨p0, 0, true⟩])) := OwnE.snoc hown9
              have HXE : Hid (s.size - (j0 + 1) < f' ∧ parseL s f' (j0 + 1) (l ++ [⟨p0, 0, true⟩]) = V) := by
                have h := HX3.out
                rw [HQ.out] at h
                exact ⟨by omega, h.2⟩
              clear hown9 hbel9 hgrow9 HX3 HQ HA7 HB7 HO7
              go_roundg (33 - (l.length + 1))
              case measure => omega
              case rel => exact ⟨(j0 + 1), l ++ [(At.mk p0 0 true)], by first | rfl | go_num, by omega, by simp; omega, HO9.out, HB9.out, ⟨f', HXE.out⟩, by simp⟩
            · have t42 : ((s[j0].toNat : Int) == 42) = false := beq_eq_false_iff_ne.2 (by omega)
              have h42' : ¬ bt s j0 = 42 := by rw [bt_get s j0 hj0]; exact h42
              clear h42
              by_cases h43 : s[j0].toNat = 43
              · have t43 : ((s[j0].toNat : Int) == 43) = true := beq_iff_eq.2 (by omega)
                have h43' : bt s j0 = 43 := by rw [bt_get s j0 hj0]; exact h43
                clear h43
                have HQ : Hid (quantF s j0 = (1, true, j0 + 1)) := by
                  show _ = _
                  unfold quantF
                  rw [if_pos hj0, if_neg h42', if_pos h43']
                have HA7 : Hid (AtIn (w6.setCell ⟨g, 33, none⟩ (.bool true)) g ⟨p0, 1, true⟩) := (HA6.out.setMany _)
                have HB7 : Hid (Below w.heap.size w (w6.setCell ⟨g, 33, none⟩ (.bool true))) := (below_set HB6.out hg3 _ _)
                have HO7 : Hid (OwnE 37 atC 34 (w6.setCell ⟨g, 33, none⟩ (.bool true)) w.heap.size (.slice A l.length cA) l) := (own_setAt HO6.out HG.out _ _)
                go_upto_region 21 with fail
                clear HA6 HB6 HO6 r32 r33 g32 g33
                generalize w6.setCell ⟨g, 33, none⟩ (.bool true) = w7 at HA7 HB7 HO7 ⊢
                have hz7 : w.heap.size ≤ w7.heap.size := HB7.out.size
                go_wp2_with (first
                  | (refine wpList_load_row rfl 37 (.tmp 10) rfl (g) rfl 37 (atC ⟨p0, 1, true⟩).toArray (0, 0) _ HA7.out Try.underlying37 rfl (by rw [atom_size, atC_size]) ?_)
                  | (refine wpList_buildOne rfl (.tmp 55) (by rfl) ⟨p0, 1, true⟩ (by rfl) ?_)
                  | (refine wpList_app1 rfl (.tmp 54) (.tmp 56) 26 37 rfl Try.underlying26 _ 34 48 atom_info rfl (by decide) w.heap.size (.slice A l.length cA) l.length (l.flatMap atC) rfl (own_below HO7.out ((Below.refl _ w7).alloc (Nat.le_refl _) _) (Nat.le_refl _)) ⟨w7.heap.size, 0, none⟩ 1 (atC ⟨p0, 1, true⟩) rfl (atC_len _) (cells_new w7 (atC ⟨p0, 1, true⟩) 37) (atC_one _) (by omega) (by decide) (by simp; omega) ?_; intro g2 cap w9 hown9 hbg9 hbel9 hgrow9))
                have HB9 := Lib.hid (hbel9 w.heap.size w (Nat.le_refl _) (HB7.out.alloc (by omega) _))
                have HO9 : Hid (OwnE 37 atC 34 w9 w.heap.size (.slice (some ⟨g2, 0, none⟩) (l.length + 1) cap) (l ++ [⟨p0, 1, true⟩])) := OwnE.snoc hown9
                have HXE : Hid (s.size - (j0 + 1) < f' ∧ parseL s f' (j0 + 1) (l ++ [⟨p0, 1, true⟩]) = V) := by
                  have h := HX3.out
                  rw [HQ.out] at h
                  exact ⟨by omega, h.2⟩
                clear hown9 hbel9 hgrow9 HX3 HQ HA7 HB7 HO7
                go_roundg (33 - (l.length + 1))
                case measure => omega
                case rel => exact ⟨(j0 + 1), l ++ [(At.mk p0 1 true)], by first | rfl | go_num, by omega, by simp; omega, HO9.out, HB9.out, ⟨f', HXE.out⟩, by simp⟩
              · have t43 : ((s[j0].toNat : Int) == 43) = false := beq_eq_false_iff_ne.2 (by omega)
                have h43' : ¬ bt s j0 = 43 := by rw [bt_get s j0 hj0]; exact h43
                clear h43
                by_cases h63 : s[j0].toNat = 63
                · have t63 : ((s[j0].toNat : Int) == 63) = true := beq_iff_eq.2 (by omega)
                  have h63' : bt s j0 = 63 := by rw [bt_get s j0 hj0]; exact h63
                  clear h63
                  have HQ : Hid (quantF s j0 = (0, false, j0 + 1)) := by
                    show _ = _
                    unfold quantF
                    rw [if_pos hj0, if_neg h42', if_neg h43', if_pos h63']
                  have HA7 : Hid (AtIn (w6.setCell ⟨g, 32, none⟩ (.int .i64 0)) g ⟨p0, 0, false⟩) := (HA6.out.setMn _)
                  have HB7 : Hid (Below w.heap.size w (w6.setCell ⟨g, 32, none⟩ (.int .i64 0))) := (below_set HB6.out hg3 _ _)
                  have HO7 : Hid (OwnE 37 atC 34 (w6.setCell ⟨g, 32, none⟩ (.int .i64 0)) w.heap.size (.slice A l.length cA) l) := (own_setAt HO6.out HG.out _ _)
                  go_upto_region 21 with fail
                  clear HA6 HB6 HO6 r32 r33 g32 g33
                  generalize w6.setCell ⟨g, 32, none⟩ (.int .i64 0) = w7 at HA7 HB7 HO7 ⊢
                  have hz7 : w.heap.size ≤ w7.heap.size := HB7.out.size
                  go_wp2_with (first
                    | (refine wpList_load_row rfl 37 (.tmp 10) rfl (g) rfl 37 (atC ⟨p0, 0, false⟩).toArray (0, 0) _ HA7.out Try.underlying37 rfl (by rw [atom_size, atC_size]) ?_)
                    | (refine wpList_buildOne rfl (.tmp 55) (by rfl) ⟨p0, 0, false⟩ (by rfl) ?_)
                    | (refine wpList_app1 rfl (.tmp 54) (.tmp 56) 26 37 rfl Try.underlying26 _ 34 48 atom_info rfl (by decide) w.heap.size (.slice A l.length cA) l.length (l.flatMap atC) rfl (own_below HO7.out ((Below.refl _ w7).alloc (Nat.le_refl _) _) (Nat.le_refl _)) ⟨w7.heap.size, 0, none⟩ 1 (atC ⟨p0, 0, false⟩) rfl (atC_len _) (cells_new w7 (atC ⟨p0, 0, false⟩) 37) (atC_one _) (by omega) (by decide) (by simp; omega) ?_; intro g2 cap w9 hown9 hbg9 hbel9 hgrow9))
                  have HB9 := Lib.hid (hbel9 w.heap.size w (Nat.le_refl _) (HB7.out.alloc (by omega) _))
                  have HO9 : Hid (OwnE 37 atC 34 w9 w.heap.size (.slice (some ⟨g2, 0, none⟩) (l.length + 1) cap) (l ++ [⟨p0, 0, false⟩])) := OwnE.snoc hown9
                  have HXE : Hid (s.size - (j0 + 1) < f' ∧ parseL s f' (j0 + 1) (l ++ [⟨p0, 0, false⟩]) = V) := by
                    have h := HX3.out
                    rw [HQ.out] at h
                    exact ⟨by omega, h.2⟩
                  clear hown9 hbel9 hgrow9 HX3 HQ HA7 HB7 HO7
                  go_roundg (33 - (l.length + 1))
                  case measure => omega
                  case rel => exact ⟨(j0 + 1), l ++ [(At.mk p0 0 false)], by first | rfl | go_num, by omega, by simp; omega, HO9.out, HB9.out, ⟨f', HXE.out⟩, by simp⟩
                · have t63 : ((s[j0].toNat : Int) == 63) = false := beq_eq_false_iff_ne.2 (by omega)
                  have h63' : ¬ bt s j0 = 63 := by rw [bt_get s j0 hj0]; exact h63
                  clear h63
                  have HQ : Hid (quantF s j0 = (1, false, j0)) := by
                    show _ = _
                    unfold quantF
                    rw [if_pos hj0, if_neg h42', if_neg h43', if_neg h63']
                  go_upto_region 21 with fail
                  clear r32 r33 g32 g33
                  have hz6 : w.heap.size ≤ w6.heap.size := HB6.out.size
                  go_wp2_with (first
                    | (refine wpList_load_row rfl 37 (.tmp 10) rfl (g) rfl 37 (atC ⟨p0, 1, false⟩).toArray (0, 0) _ HA6.out Try.underlying37 rfl (by rw [atom_size, atC_size]) ?_)
                    | (refine wpList_buildOne rfl (.tmp 55) (by rfl) ⟨p0, 1, false⟩ (by rfl) ?_)
                    | (refine wpList_app1 rfl (.tmp 54) (.tmp 56) 26 37 rfl Try.underlying26 _ 34 48 atom_info rfl (by decide) w.heap.size (.slice A l.length cA) l.length (l.flatMap atC) rfl (own_below HO6.out ((Below.refl _ w6).alloc (Nat.le_refl _) _) (Nat.le_refl _)) ⟨w6.heap.size, 0, none⟩ 1 (atC ⟨p0, 1, false⟩) rfl (atC_len _) (cells_new w6 (atC ⟨p0, 1, false⟩) 37) (atC_one _) (by omega) (by decide) (by simp; omega) ?_; intro g2 cap w9 hown9 hbg9 hbel9 hgrow9))
                  have HB9 := Lib.hid (hbel9 w.heap.size w (Nat.le_refl _) (HB6.out.alloc (by omega) _))
                  have HO9 : Hid (OwnE 37 atC 34 w9 w.heap.size (.slice (some ⟨g2, 0, none⟩) (l.length + 1) cap) (l ++ [⟨p0, 1, false⟩])) := OwnE.snoc hown9
                  have HXE : Hid (s.size - j0 < f' ∧ parseL s f' j0 (l ++ [⟨p0, 1, false⟩]) = V) := by
                    have h := HX3.out
                    rw [HQ.out] at h
                    exact ⟨by omega, h.2⟩
                  clear hown9 hbel9 hgrow9 HX3 HQ HA6 HB6 HO6
                  go_roundg (33 - (l.length + 1))
                  case measure => omega
                  case rel => exact ⟨j0, l ++ [(At.mk p0 1 false)], by first | rfl | go_num, by omega, by simp; omega, HO9.out, HB9.out, ⟨f', HXE.out⟩, by simp⟩
          · have HQ : Hid (quantF s j0 = (1, false, j0)) := by
              show _ = _
              unfold quantF
              rw [if_neg hj0]
            have hj0i : ¬ (j0 : Int) < (s.size : Int) := by omega
            go_upto_region 21 with fail
            clear r32 r33 g32 g33
            have hz6 : w.heap.size ≤ w6.heap.size := HB6.out.size
            go_wp2_with (first
              | (refine wpList_load_row rfl 37 (.tmp 10) rfl (g) rfl 37 (atC ⟨p0, 1, false⟩).toArray (0, 0) _ HA6.out Try.underlying37 rfl (by rw [atom_size, atC_size]) ?_)
              | (refine wpList_buildOne rfl (.tmp 55) (by rfl) ⟨p0, 1, false⟩ (by rfl) ?_)
              | (refine wpList_app1 rfl (.tmp 54) (.tmp 56) 26 37 rfl Try.underlying26 _ 34 48 atom_info rfl (by decide) w.heap.size (.slice A l.length cA) l.length (l.flatMap atC) rfl (own_below HO6.out ((Below.refl _ w6).alloc (Nat.le_refl _) _) (Nat.le_refl _)) ⟨w6.heap.size, 0, none⟩ 1 (atC ⟨p0, 1, false⟩) rfl (atC_len _) (cells_new w6 (atC ⟨p0, 1, false⟩) 37) (atC_one _) (by omega) (by decide) (by simp; omega) ?_; intro g2 cap w9 hown9 hbg9 hbel9 hgrow9))
            have HB9 := Lib.hid (hbel9 w.heap.size w (Nat.le_refl _) (HB6.out.alloc (by omega) _))
            have HO9 : Hid (OwnE 37 atC 34 w9 w.heap.size (.slice (some ⟨g2, 0, none⟩) (l.length + 1) cap) (l ++ [⟨p0, 1, false⟩])) := OwnE.snoc hown9
            have HXE : Hid (s.size - j0 < f' ∧ parseL s f' j0 (l ++ [⟨p0, 1, false⟩]) = V) := by
              have h := HX3.out
              rw [HQ.out] at h
              exact ⟨by omega, h.2⟩
            clear hown9 hbel9 hgrow9 HX3 HQ HA6 HB6 HO6
            go_roundg (33 - (l.length + 1))
            case measure => omega
            case rel => exact ⟨j0, l ++ [(At.mk p0 1 false)], by first | rfl | go_num, by omega, by simp; omega, HO9.out, HB9.out, ⟨f', HXE.out⟩, by simp⟩
    · have HVE : Hid (V = (l, 0, 0)) := by
        have h := HX.out.2
        rw [HF'.out] at h
        unfold parseL at h
        rw [if_neg hlt] at h
        exact h.symm
      have hlti : ¬ (i : Int) < (s.size : Int) := by omega
      go_wp2_with fail
      go_ret3
      rw [HVE.out]
      exact ⟨_, rfl, HO.out, HB.out⟩

end Go.Proofs.Ytanpiidhcijfaaa
