
/-
  A rule more, the program's.
-/
import Derived.Test.YtpboaadjbkaidaaDoorSegB
import Derived.Deep.RegionLaw
namespace Go.Proofs.YtpboaadjbkaidaaDoor
set_option maxRecDepth 100000
open Go.RowKit

theorem rule_info : (Tryd.prog.info? 30).map (fun i => (i.zero, i.size, i.bytes)) = some (some (.agg #[.bool false, .slice none 0 0, .slice none 0 0]), 3, 56) := by kernel_rfl
theorem box3 {w : World} {b : Nat} {v0 v1 v2 : Value} {t : TypeId} (h : w.heap[b]? = some (.cells #[v0, v1, v2] t)) :
    w.cell? ⟨b, 0, none⟩ = some v0 ∧ w.cell? ⟨b, 1, none⟩ = some v1 ∧ w.cell? ⟨b, 2, none⟩ = some v2 ∧ w.frozen? ⟨b, 0, none⟩ = false ∧ w.frozen? ⟨b, 1, none⟩ = false ∧ w.frozen? ⟨b, 2, none⟩ = false :=
  ⟨by rw [cell_of_row _ _ 0 _ _ _ h]; rfl, by rw [cell_of_row _ _ 1 _ _ _ h]; rfl, by rw [cell_of_row _ _ 2 _ _ _ h]; rfl, frozen_of_row w b 0 _ _ h, frozen_of_row w b 1 _ _ h, frozen_of_row w b 2 _ _ h⟩
theorem set_row1 {w : World} {b : Nat} {cs : Array Value} {t : TypeId} (h : w.heap[b]? = some (.cells cs t)) (j : Nat) (u : Value) : (w.setCell ⟨b, j, none⟩ u).heap[b]? = some (.cells (cs.setIfInBounds j u) t) :=
  heap_setCell_same w b j _ _ _ h
theorem rule3 (ts : List Tb) (a b c : ByteArray) (h : ts ≠ []) : ruleF ts [a.data.toList, b.data.toList, c.data.toList] = if (sideF b.data.toList).2 ≠ 0 then ([], (sideF b.data.toList).2) else if (sideF c.data.toList).2 ≠ 0 then ([], (sideF c.data.toList).2) else if 32 ≤ ((ts.getLast?.map (·.rs)).getD []).length then ([], 3) else (addLast ts ⟨a.data.toList == wBreak, (sideF b.data.toList).1, (sideF c.data.toList).1⟩, 0) := by
  unfold ruleF
  rw [if_neg (by simp), if_neg h]
  rfl

set_option maxRecDepth 100000 in
set_option maxHeartbeats 8000000 in
theorem addRule_any (B : Nat) (w : World) (v wv : Value) (ts : List Tb) (xs : List TbV) (rv : Sl) (ys : List RuV) (ws : List ByteArray) (ht : TS 46 30 B w v ts xs rv ys) (hw : RdE strC 1 w wv ws) (hB : B ≤ w.heap.size) (hl : ts.length ≤ 16) (hws : ∀ s ∈ ws, s.size ≤ 2147483648) :
    Calls Tryd.prog 88 #[v, wv] w (RetTab B w (ruleF ts (ws.map fun s => s.data.toList))) := by
  obtain ⟨R, HRR⟩ : ∃ R, Hid (R = RetTab B w (ruleF ts (ws.map fun s => s.data.toList))) := ⟨_, rfl⟩
  rw [← HRR.out]
  have HT := Lib.hid ht
  obtain ⟨Aw, cw, rfl, hlw, _⟩ := hw.shape
  obtain ⟨Av, cv, hv⟩ := ht.rd.shape
  by_cases h3 : ws.length ≠ 3
  · have t2 : ((ws.length : Int) != 3) = true := bne_iff_ne.2 (by omega)
    have e0 : ruleF ts (ws.map fun s => s.data.toList) = ([], 2) := by unfold ruleF; rw [List.length_map, if_pos h3]
    subst hv
    go_enter Tryd.func88, Tryd.ntmps88
    go_wp2_with fail
    rw [HRR.out, e0]
    exact ⟨_, _, rfl, rfl, fun h => absurd h (by decide), Below.refl _ _⟩
  obtain ⟨bb, o, rfl, hbl, hcell⟩ := hw.cells (by omega)
  obtain ⟨a, b, c, rfl⟩ : ∃ a b c, ws = [a, b, c] := by
    match ws, (show ws.length = 3 by omega) with
    | [a, b, c], _ => exact ⟨a, b, c, rfl⟩
  clear h3
  change Hid (R = RetTab B w (ruleF ts [a.data.toList, b.data.toList, c.data.toList])) at HRR
  by_cases h0 : ts.length = 0
  · obtain rfl : ts = [] := List.eq_nil_of_length_eq_zero h0
    have e0 : ruleF [] [a.data.toList, b.data.toList, c.data.toList] = ([], 8) := rfl
    subst hv
    go_enter Tryd.func88, Tryd.ntmps88
    go_wp2_with fail
    rw [HRR.out, e0]
    exact ⟨_, _, rfl, rfl, fun h => absurd h (by decide), Below.refl _ _⟩
  obtain ⟨n, hn⟩ : ∃ n, ts.length = n + 1 := ⟨ts.length - 1, by omega⟩
  obtain ⟨gT, cT, hvT, hBT⟩ := own_some ht.own (by rw [ht.len]; omega)
  rw [ht.len, hn] at hvT
  rw [hv] at hvT
  have q0 := hcell 0 a 0 (.string a) rfl rfl
  rw [show o + (0 * 1 + 0) = o by omega] at q0
  have q1 := hcell 1 b 0 (.string b) rfl rfl
  rw [show o + (1 * 1 + 0) = o + 1 by omega] at q1
  have q2 := hcell 2 c 0 (.string c) rfl rfl
  rw [show o + (2 * 1 + 0) = o + 2 by omega] at q2
  clear hcell
  obtain ⟨bk, hbk⟩ : ∃ bk, (a.toList == [98, 114, 101, 97, 107]) = bk := ⟨_, rfl⟩
  have hbk2 : Hid (bk = (a.data.toList == wBreak)) := by show _ = _; rw [← hbk, toList_eq_data]; rfl
  have HS1 := Lib.hid (fun w => side_any b w (hws b (by simp)))
  have HS2 := Lib.hid (fun w => side_any c w (hws c (by simp)))
  have HE : Hid (ruleF ts [a.data.toList, b.data.toList, c.data.toList] = if (sideF b.data.toList).2 ≠ 0 then ([], (sideF b.data.toList).2) else if (sideF c.data.toList).2 ≠ 0 then ([], (sideF c.data.toList).2) else if 32 ≤ ((ts.getLast?.map (·.rs)).getD []).length then ([], 3) else (addLast ts ⟨bk, (sideF b.data.toList).1, (sideF c.data.toList).1⟩, 0)) := by
    show _ = _
    rw [hbk2.out]
    exact rule3 ts a b c (fun e => h0 (by rw [e]; rfl))
  generalize ruleF ts [a.data.toList, b.data.toList, c.data.toList] = rr at HE HRR
  generalize hs1 : sideF b.data.toList = s1 at HE
  generalize hs2 : sideF c.data.toList = s2 at HE
  obtain ⟨p1, x1⟩ := s1
  obtain ⟨p2, x2⟩ := s2
  unfold RetSide at HS1 HS2
  rw [hs1] at HS1
  rw [hs2] at HS2
  simp only at HS1 HS2 HE
  clear hs1 hs2 hbk2
  rw [hn] at hv
  have hAT : Av = some ⟨gT, 0, none⟩ ∧ cv = cT := by injection hvT with e1 _ e2; exact ⟨e1, e2⟩
  obtain ⟨rfl, rfl⟩ := hAT
  clear hvT
  obtain ⟨w1, hw1⟩ : ∃ w1, w1 = w.alloc (.cells #[.bool bk, (.slice none 0 0), (.slice none 0 0)] 30) := ⟨_, rfl⟩
  have hgT : gT < w.heap.size := (ht.own.lt gT (by rw [hv]; rfl)).2
  subst hv
  go_enter Tryd.func88, Tryd.ntmps88
  have hb1 : bb < (w.alloc (.cells #[.bool bk, (.slice none 0 0), (.slice none 0 0)] 30)).heap.size := by simp; omega
  go_upto_region 7 with fail
  rw [← hw1]
  have hz1 : w1.heap.size = w.heap.size + 1 := by rw [hw1]; simp
  have HX1 : Hid (w1.heap[w.heap.size]? = some (.cells #[.bool bk, (.slice none 0 0), (.slice none 0 0)] 30)) := by show _ = _; rw [hw1]; exact heap_alloc_new w _
  have HB1 : Hid (Below w.heap.size w w1) := by show Below _ _ _; rw [hw1]; exact (Below.refl _ w).alloc (Nat.le_refl _) _
  have r1 : w1.cell? ⟨bb, o + 1, none⟩ = some (.string b) := (HB1.out.cell (p := ⟨bb, o + 1, none⟩) hbl).trans q1
  clear hw1 q0 q1 hb1 hbk
  generalize hg : w.heap.size = g at hz1 HX1 ⊢
  go_wp2_with fail
  refine (HS1.out _).mono ?_
  rintro e w2 ⟨v1, y1, rfl, hy1, ho1, hb2⟩
  subst hy1
  obtain ⟨A1, c1, hv1⟩ := own_shape ho1
  subst hv1
  have HX2 : Hid (w2.heap[g]? = some (.cells #[.bool bk, (.slice none 0 0), (.slice none 0 0)] 30)) := by (show _ = _; rw [hb2.block g (by omega)]; exact HX1.out)
  obtain ⟨z0, z1, z2, y0, y3, y2⟩ := box3 HX2.out
  go_upto_region 8 with fail
  have hz2 := hb2.size
  have HX3 : Hid ((w2.setCell ⟨g, 1, none⟩ (.slice A1 p1.length c1)).heap[g]? = some (.cells #[.bool bk, (.slice A1 p1.length c1), (.slice none 0 0)] 30)) := set_row1 HX2.out 1 _
  have HO3 : Hid (OwnE 26 atC 34 (w2.setCell ⟨g, 1, none⟩ (.slice A1 p1.length c1)) w1.heap.size (.slice A1 p1.length c1) p1) := own_setAt (g := g) ho1 (fun k hk e => by have := (World.ownsRow.lt ho1 k hk).1; omega) _ _
  have HB3 : Hid (Below w.heap.size w (w2.setCell ⟨g, 1, none⟩ (.slice A1 p1.length c1))) := (HB1.out.trans (hb2.mono (by omega))).setCell (p := ⟨g, 1, none⟩) (show w.heap.size ≤ g by omega) _
  have hz3 : w1.heap.size ≤ (w2.setCell ⟨g, 1, none⟩ (.slice A1 p1.length c1)).heap.size := by simpa [World.setCell] using hz2
  clear HX2 ho1 hb2 z0 z1 z2 y0 y2 y3 r1 hz2
  generalize w2.setCell ⟨g, 1, none⟩ (.slice A1 p1.length c1) = w3 at HX3 HO3 HB3 hz3 ⊢
  have r2 : w3.cell? ⟨bb, o + 2, none⟩ = some (.string c) := (HB3.out.cell (p := ⟨bb, o + 2, none⟩) hbl).trans q2
  clear q2
  by_cases hx1 : y1 ≠ 0
  · have t1 : (y1 != 0) = true := bne_iff_ne.2 hx1
    go_wp2_with fail
    rw [HRR.out, HE.out, if_pos hx1]
    exact ⟨_, _, rfl, rfl, fun h => absurd h hx1, HB3.out.mono hB⟩
  have t1 : (y1 != 0) = false := by simpa using hx1
  go_wp2_with fail
  refine (HS2.out _).mono ?_
  rintro e w4 ⟨v2, y2, rfl, hy2, ho2, hb4⟩
  subst hy2
  obtain ⟨A2, c2, hv2⟩ := own_shape ho2
  subst hv2
  have HX4 : Hid (w4.heap[g]? = some (.cells #[.bool bk, (.slice A1 p1.length c1), (.slice none 0 0)] 30)) := by (show _ = _; rw [hb4.block g (by omega)]; exact HX3.out)
  obtain ⟨z0, z1, z2, y0, y3, y4⟩ := box3 HX4.out
  go_upto_region 11 with fail
  have hz4 := hb4.size
  have HX5 : Hid ((w4.setCell ⟨g, 2, none⟩ (.slice A2 p2.length c2)).heap[g]? = some (.cells #[.bool bk, (.slice A1 p1.length c1), (.slice A2 p2.length c2)] 30)) := set_row1 HX4.out 2 _
  have HO5 : Hid (OwnE 26 atC 34 (w4.setCell ⟨g, 2, none⟩ (.slice A2 p2.length c2)) w1.heap.size (.slice A1 p1.length c1) p1) := own_setAt (g := g) (own_below HO3.out hb4 (Nat.le_refl _)) (fun k hk e => by have := (World.ownsRow.lt HO3.out k hk).1; omega) _ _
  have HP5 : Hid (OwnE 26 atC 34 (w4.setCell ⟨g, 2, none⟩ (.slice A2 p2.length c2)) w3.heap.size (.slice A2 p2.length c2) p2) := own_setAt (g := g) ho2 (fun k hk e => by have := (World.ownsRow.lt ho2 k hk).1; omega) _ _
  have HB5 : Hid (Below w.heap.size w (w4.setCell ⟨g, 2, none⟩ (.slice A2 p2.length c2))) := (HB3.out.trans (hb4.mono (by omega))).setCell (p := ⟨g, 2, none⟩) (show w.heap.size ≤ g by omega) _
  clear HX4 ho2 hb4 z0 z1 z2 y0 y3 y4 r2 HX3 HO3 HB3
  generalize w4.setCell ⟨g, 2, none⟩ (.slice A2 p2.length c2) = w5 at HX5 HO5 HP5 HB5 ⊢
  by_cases hx2 : y2 ≠ 0
  · have t2 : (y2 != 0) = true := bne_iff_ne.2 hx2
    go_wp2_with fail
    rw [HRR.out, HE.out, if_neg hx1, if_pos hx2]
    exact ⟨_, _, rfl, rfl, fun h => absurd h hx2, HB5.out.mono hB⟩
  have t2 : (y2 != 0) = false := by simpa using hx2
  obtain ⟨z0, z1, z2, _, _, _⟩ := box3 HX5.out
  have HT5 := Lib.hid (HT.out.below HB5.out (Nat.le_refl _))
  obtain ⟨rA, rn, rc⟩ := rv
  obtain ⟨Ar, cr, hr⟩ := own_shape HT5.out.rown
  have hrn : rn = ys.length := by unfold Sl.v at hr; injection hr
  subst hrn
  have hxn : n < xs.length := by have := HT.out.len; omega
  have htn : n < ts.length := by omega
  have hxg : xs[n]? = some xs[n] := List.getElem?_eq_getElem hxn
  have htg : ts[n]? = some ts[n] := List.getElem?_eq_getElem htn
  obtain ⟨hxr, hyl, _⟩ := HT5.out.last n _ _ hxg htg (by omega)
  have hlast : ((ts.getLast?.map (·.rs)).getD []).length = ys.length := by
    rw [List.getLast?_eq_getElem?, hn, show n + 1 - 1 = n by omega, htg, hyl]
    rfl
  rw [hlast, if_neg hx1, if_neg hx2] at HE
  clear hyl hlast
  have HQ : Hid (w5.cell? ⟨gT, n * 3 + 2, none⟩ = some (.slice rA ys.length rc)) := by
    show _ = _
    have h := HT5.out.own
    unfold OwnE at h
    have hxl : xs.length = n + 1 := by rw [HT.out.len, hn]
    rw [hxl] at h
    rw [h.cellAt (n * 3 + 2) (by omega), flat_get tbC 3 tbC_len xs n 2 _ hxg (by omega)]
    show some xs[n].r.v = _
    rw [hxr]
    rfl
  have HF : Hid (w5.frozen? ⟨gT, n * 3 + 2, none⟩ = false) := by
    have h := HT5.out.own
    unfold OwnE at h
    have hxl : xs.length = n + 1 := by rw [HT.out.len, hn]
    rw [hxl] at h
    exact h.frozenAt (n * 3 + 2)
  have qT := HQ.out
  have hT5 : gT < w5.heap.size := Nat.lt_of_lt_of_le hgT HB5.out.size
  have hn0 : (0 : Int) ≤ (n : Int) := by omega
  by_cases h32 : 32 ≤ ys.length
  · have h32i : (32 : Int) ≤ (ys.length : Int) := by omega
    go_wp2_with fail
    rw [HRR.out, HE.out, if_pos h32]
    exact ⟨_, _, rfl, rfl, fun h => absurd h (by decide), HB5.out.mono hB⟩
  have h32i : ¬ (32 : Int) ≤ (ys.length : Int) := by omega
  rw [if_neg h32] at HE
  have hTR : (Value.slice rA ys.length rc).ownBlock ≠ some gT := HT.out.apart gT rfl
  have HT6 := Lib.hid (HT5.out.keep (w' := w5.drew.alloc (.cells (ruC ⟨bk, ⟨A1, p1.length, c1⟩, ⟨A2, p2.length, c2⟩⟩).toArray 30)) (by simp) (fun k hk => Below.heap_alloc w5 _ k hk))
  have HOR : Hid ((w5.drew.alloc (.cells (ruC ⟨bk, ⟨A1, p1.length, c1⟩, ⟨A2, p2.length, c2⟩⟩).toArray 30)).ownsRow B 30 3 (.slice rA ys.length rc) ys.length (ys.flatMap ruC)) := HT6.out.rown
  have hb6 : (w5.drew.alloc (.cells (ruC ⟨bk, ⟨A1, p1.length, c1⟩, ⟨A2, p2.length, c2⟩⟩).toArray 30)).heap[gT]? = w5.heap[gT]? := Below.heap_alloc w5 _ gT hT5
  have HQT : Hid ((w5.drew.alloc (.cells (ruC ⟨bk, ⟨A1, p1.length, c1⟩, ⟨A2, p2.length, c2⟩⟩).toArray 30)).cell? ⟨gT, n * 3 + 2, none⟩ = some (.slice rA ys.length rc)) := (World.cell?_of_block (w := w5) hb6).trans HQ.out
  have HFT : Hid ((w5.drew.alloc (.cells (ruC ⟨bk, ⟨A1, p1.length, c1⟩, ⟨A2, p2.length, c2⟩⟩).toArray 30)).frozen? ⟨gT, n * 3 + 2, none⟩ = false) := (World.frozen?_of_block (w := w5) hb6).trans HF.out
  have HK5 : Hid (Keep (blkL (.slice (some ⟨gT, 0, none⟩) (n + 1) cv) ++ blkL (Sl.v ⟨rA, ys.length, rc⟩)) w5 fun u => RdE atC 34 u (.slice A1 p1.length c1) p1 ∧ RdE atC 34 u (.slice A2 p2.length c2) p2) := by
    have hX : ∀ b ∈ blkL (.slice (some ⟨gT, 0, none⟩) (n + 1) cv) ++ blkL (Sl.v ⟨rA, ys.length, rc⟩), b < w.heap.size := fun b hb => by
      rcases List.mem_append.1 hb with hb | hb
      · have e : gT = b := by simpa [Value.ownBlock] using mem_blkL.1 hb
        omega
      · exact (World.ownsRow.lt HT.out.rown b (mem_blkL.1 hb)).2
    exact (OwnE.keepX atC_len HO5.out (fun b hb => .inl (by have := hX b hb; omega))).and (OwnE.keepX atC_len HP5.out (fun b hb => .inl (by have := hX b hb; omega)))
  have HK6 := Lib.hid (HK5.out.step (w' := w5.drew.alloc (.cells (ruC ⟨bk, ⟨A1, p1.length, c1⟩, ⟨A2, p2.length, c2⟩⟩).toArray 30)) (by simp) (fun b hb hX => ⟨Below.heap_alloc w5 _ b hb, hX⟩))
  have HB6 : Hid (Below B w (w5.drew.alloc (.cells (ruC ⟨bk, ⟨A1, p1.length, c1⟩, ⟨A2, p2.length, c2⟩⟩).toArray 30))) := ((HB5.out.mono hB).drew).alloc (Nat.le_trans hB HB5.out.size) _
  clear HK5
  go_upto_region 16 with fail
  go_region_law (first
    | (refine step_appE rfl (.tmp 57) (.tmp 59) 31 30 rfl Tryd.underlying31 _ ruC 3 56 rule_info rfl (by decide) ruC_len ruC_one B (.slice rA ys.length rc) ys (by simp [Act.eval, Act.put]) (by exact HOR.out) (.slice (some ⟨w5.heap.size, 0, none⟩) 1 1) [⟨bk, ⟨A1, p1.length, c1⟩, ⟨A2, p2.length, c2⟩⟩] (by simp [Act.eval, Act.put]) (by exact rdE_one_at ruC 3 ruC_len w5.drew _ rfl ⟨bk, ⟨A1, p1.length, c1⟩, ⟨A2, p2.length, c2⟩⟩ 30) (by simp only [List.length_singleton]; omega) (by decide) (by simp; omega) ?_
       intro v7 w7 hown7 hbel7 hgr7 hat7
       obtain ⟨A7, c7, hv7⟩ := own_shape hown7
       subst hv7
       have hb7 : w7.heap[gT]? = (w5.drew.alloc (.cells (ruC ⟨bk, ⟨A1, p1.length, c1⟩, ⟨A2, p2.length, c2⟩⟩).toArray 30)).heap[gT]? := hgr7.block gT (by simp; omega) (by intro e; exact hTR e.symm)
       have f1 : w7.cell? ⟨gT, n * 3 + 2, none⟩ = some (.slice rA ys.length rc) := (World.cell?_of_block (w := w5.drew.alloc (.cells (ruC ⟨bk, ⟨A1, p1.length, c1⟩, ⟨A2, p2.length, c2⟩⟩).toArray 30)) hb7).trans HQT.out
       have f2 : w7.frozen? ⟨gT, n * 3 + 2, none⟩ = false := (World.frozen?_of_block (w := w5.drew.alloc (.cells (ruC ⟨bk, ⟨A1, p1.length, c1⟩, ⟨A2, p2.length, c2⟩⟩).toArray 30)) hb7).trans HFT.out
       have HN7 := Lib.hid hown7
       have HL7 := Lib.hid hbel7
       have HG7 := Lib.hid hgr7
       have HA7 := Lib.hid hat7
       clear hown7 hbel7 hgr7 hat7 hb7))
  all_goals (go_wp2_with fail)
  all_goals
    rw [HRR.out, HE.out]
    have h7 : OwnE 30 ruC 3 w7 B (Sl.v ⟨A7, ys.length + 1, c7⟩) (ys ++ [⟨bk, ⟨A1, p1.length, c1⟩, ⟨A2, p2.length, c2⟩⟩]) := by
      have h := HN7.out
      have e : (ys ++ [(⟨bk, ⟨A1, p1.length, c1⟩, ⟨A2, p2.length, c2⟩⟩ : RuV)]).length = ys.length + 1 := by simp
      unfold OwnE Sl.v
      rw [e] at h ⊢
      exact h
    have h8 : (Sl.v ⟨A7, ys.length + 1, c7⟩).ownBlock = (Sl.v ⟨rA, ys.length, rc⟩).ownBlock ∨ (Sl.v ⟨A7, ys.length + 1, c7⟩).ownBlock = some (w5.drew.alloc (.cells (ruC ⟨bk, ⟨A1, p1.length, c1⟩, ⟨A2, p2.length, c2⟩⟩).toArray 30)).heap.size := by
      have h := HA7.out
      have e : (ys ++ [(⟨bk, ⟨A1, p1.length, c1⟩, ⟨A2, p2.length, c2⟩⟩ : RuV)]).length = ys.length + 1 := by simp
      rw [e] at h
      exact h
    exact ⟨_, _, rfl, rfl, fun _ => ⟨_, _, _, TS.rule HT6.out n hn gT cv rfl xs[n] hxg ⟨bk, p1, p2⟩ ⟨bk, ⟨A1, p1.length, c1⟩, ⟨A2, p2.length, c2⟩⟩ rfl HK6.out (rv' := ⟨A7, ys.length + 1, c7⟩) h7 HG7.out h8⟩, (HL7.out B w (Nat.le_refl _) HB6.out).setCell (p := ⟨gT, n * 3 + 2, none⟩) hBT _⟩

end Go.Proofs.YtpboaadjbkaidaaDoor
