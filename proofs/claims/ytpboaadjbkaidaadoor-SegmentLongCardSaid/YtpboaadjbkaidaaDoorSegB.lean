
/-
  A table more, the program's.
-/
import Derived.Test.YtpboaadjbkaidaaDoorSegA
import Derived.Test.YtpboaadjbkaidaaDoorClassB
namespace Go.Proofs.YtpboaadjbkaidaaDoor
set_option maxRecDepth 100000
open Go.RowKit

theorem table_info : (Tryd.prog.info? 46).map (fun i => (i.zero, i.size, i.bytes)) = some (some (.agg #[.string ⟨#[]⟩, .string ⟨#[]⟩, .slice none 0 0]), 3, 56) := by kernel_rfl
theorem rdE_one_at {α : Type} (f : α → List Value) (m : Nat) (_hm : ∀ x, (f x).length = m) (w : World) (g : Nat) (hg : w.heap.size = g) (x : α) (t : TypeId) : RdE f m (w.alloc (.cells (f x).toArray t)) (.slice (some ⟨g, 0, none⟩) 1 1) [x] := by
  subst hg
  refine ⟨some ⟨w.heap.size, 0, none⟩, 1, rfl, by simp, (fun h => by cases h), fun _ => ⟨w.heap.size, 0, rfl, by simp, fun i y j u hi hj => ?_⟩⟩
  have hi0 : i = 0 := by
    have := (List.getElem?_eq_some_iff.1 hi).1
    simpa using this
  subst hi0
  simp at hi
  subst hi
  have := cells_new w (f x) t j u hj
  rw [Addr.add_lit] at this
  simpa using this
theorem ofL_list_eq (s : ByteArray) : ofL s.data.toList = s := ofL_of s
theorem find_any_iff : ∀ (ts : List Tb) (b : ByteArray) (k : Nat), (0 ≤ findF ts b k) ↔ ts.any (fun t => t.nm.data.toList == b.data.toList) = true
  | [], _, _ => by simp [findF]
  | t :: ts, b, k => by
    rw [findF, List.any_cons, toList_eq_data, toList_eq_data]
    by_cases h : (t.nm.data.toList == b.data.toList) = true
    · rw [if_pos h, h]; simp
    · rw [if_neg h, find_any_iff ts b (k + 1)]
      simp at h
      simp [h]
theorem table2 (ts : List Tb) (a b : ByteArray) : tableF ts [a.data.toList, b.data.toList] = if nameL b.data.toList = false then ([], 4) else if ts.any (fun t => t.nm.data.toList == b.data.toList) = true then ([], 5) else if 16 ≤ ts.length then ([], 3) else (ts ++ [⟨b, ⟨#[]⟩, []⟩], 0) := by
  have e : ofL [] = ⟨#[]⟩ := rfl
  unfold tableF
  simp [ofL_of, e]
theorem table3 (ts : List Tb) (a b c : ByteArray) : tableF ts [a.data.toList, b.data.toList, c.data.toList] = if nameL b.data.toList = false ∨ nameL c.data.toList = false then ([], 4) else if ts.any (fun t => t.nm.data.toList == b.data.toList) = true then ([], 5) else if 16 ≤ ts.length then ([], 3) else (ts ++ [⟨b, c, []⟩], 0) := by
  unfold tableF
  simp [ofL_of]
/-- What a call gives that adds a line. -/
def RetTab (B : Nat) (w : World) (r : List Tb × Int) (e : Ending) (w' : World) : Prop := ∃ v x, e = .returned (.tuple #[v, .int .i64 x]) ∧ x = r.2 ∧ (r.2 = 0 → ∃ xs rv ys, TS 46 30 B w' v r.1 xs rv ys) ∧ Below B w w'

set_option maxRecDepth 100000 in
set_option maxHeartbeats 8000000 in
theorem addTable_any (B : Nat) (w : World) (v wv : Value) (ts : List Tb) (xs : List TbV) (rv : Sl) (ys : List RuV) (ws : List ByteArray) (ht : TS 46 30 B w v ts xs rv ys) (hw : RdE strC 1 w wv ws) (hB : B ≤ w.heap.size) (hl : ts.length ≤ 16) (hws : ∀ s ∈ ws, s.size ≤ 2147483648) :
    Calls Tryd.prog 87 #[v, wv] w (RetTab B w (tableF ts (ws.map fun s => s.data.toList))) := by
  obtain ⟨R, HRR⟩ : ∃ R, Hid (R = RetTab B w (tableF ts (ws.map fun s => s.data.toList))) := ⟨_, rfl⟩
  rw [← HRR.out]
  have HT := Lib.hid ht
  obtain ⟨Aw, cw, rfl, hlw, _⟩ := hw.shape
  obtain ⟨Av, cv, hv⟩ := ht.rd.shape
  by_cases h23 : ws.length ≠ 2 ∧ ws.length ≠ 3
  · have t1 : ((ws.length : Int) != 2) = true := bne_iff_ne.2 (by omega)
    have t2 : ((ws.length : Int) != 3) = true := bne_iff_ne.2 (by omega)
    have e0 : tableF ts (ws.map fun s => s.data.toList) = ([], 2) := by unfold tableF; rw [List.length_map, if_pos h23]
    go_enter Tryd.func87, Tryd.ntmps87
    go_wp2_with fail
    rw [HRR.out, e0]
    exact ⟨_, _, rfl, rfl, fun h => absurd h (by decide), Below.refl _ _⟩
  obtain ⟨bb, o, rfl, hbl, hcell⟩ := hw.cells (by omega)
  subst hv
  rcases (show ws.length = 2 ∨ ws.length = 3 by omega) with h2 | h3
  · obtain ⟨a, b, rfl⟩ : ∃ a b, ws = [a, b] := by
      match ws, h2 with
      | [a, b], _ => exact ⟨a, b, rfl⟩
    clear h2 h23
    change Hid (R = RetTab B w (tableF ts [a.data.toList, b.data.toList])) at HRR
    have q1 := hcell 1 b 0 (.string b) rfl rfl
    rw [show o + (1 * 1 + 0) = o + 1 by omega] at q1
    have hbs : b.size ≤ maxLen := by have := hws b (by simp); unfold maxLen; omega
    have HT1 := Lib.hid (HT.out.keep (w' := w.alloc (.cells #[.string b, .string ⟨#[]⟩, .slice none 0 0] 46)) (by simp) (fun k hk => Below.heap_alloc w _ k hk))
    have HX1 : Hid ((w.alloc (.cells #[.string b, .string ⟨#[]⟩, .slice none 0 0] 46)).heap[w.heap.size]? = some (.cells #[.string b, .string ⟨#[]⟩, .slice none 0 0] 46)) := heap_alloc_new w _
    have HB1 : Hid (Below B w (w.alloc (.cells #[.string b, .string ⟨#[]⟩, .slice none 0 0] 46))) := (Below.refl B w).alloc hB _
    have hz1 : (w.alloc (.cells #[.string b, .string ⟨#[]⟩, .slice none 0 0] 46)).heap.size = w.heap.size + 1 := by simp
    go_enter Tryd.func87, Tryd.ntmps87
    go_upto_region 6 with fail
    clear hcell q1
    generalize hg : w.heap.size = g at HX1 hz1 hB ⊢
    generalize w.alloc (.cells #[.string b, .string ⟨#[]⟩, .slice none 0 0] 46) = w1 at HT1 HX1 HB1 hz1 ⊢
    have p0 : w1.cell? ⟨g, 0, none⟩ = some (.string b) := by rw [cell_of_row _ _ _ _ _ _ HX1.out]; rfl
    have p1 : w1.cell? ⟨g, 1, none⟩ = some (.string ⟨#[]⟩) := by rw [cell_of_row _ _ _ _ _ _ HX1.out]; rfl
    cases hb1 : nameL b.data.toList with
    | false =>
      have e0 : tableF ts [a.data.toList, b.data.toList] = ([], 4) := by rw [table2]; rw [if_pos hb1]
      have HN1 := Lib.hid (fun w => isname_any b w hbs)
      rw [hb1] at HN1
      go_wp2_with (go_at_call_of 58 (Value.string b); refine (HN1.out _).mono ?_; rintro e w' ⟨rfl, rfl⟩)
      rw [HRR.out, e0]
      exact ⟨_, _, rfl, rfl, fun h => absurd h (by decide), HB1.out⟩
    | true =>
      have HN1 := Lib.hid (fun w => isname_any b w hbs)
      rw [hb1] at HN1
      have HRD := Lib.hid HT1.out.rd
      have HFI := Lib.hid (find_any ts _ b w1 HRD.out (by omega))
      have HFA := Lib.hid (find_any_iff ts b 0)
      go_upto_region 8 with (first | (go_at_call_of 58 (Value.string b); refine (HN1.out _).mono ?_; rintro e w' ⟨rfl, rfl⟩))
      generalize findF ts b 0 = fi at HFI HFA
      by_cases hf : 0 ≤ fi
      · have e0 : tableF ts [a.data.toList, b.data.toList] = ([], 5) := by rw [table2]; rw [if_neg (fun h => Bool.noConfusion (hb1.symm.trans h))]; rw [if_pos (HFA.out.1 hf)]
        go_wp2_with (go_at_call 74; refine HFI.out.mono ?_; rintro e w2 ⟨rfl, hb2⟩)
        rw [HRR.out, e0]
        exact ⟨_, _, rfl, rfl, fun h => absurd h (by decide), HB1.out.trans (hb2.mono (by omega))⟩
      have hfl : fi < 0 := by omega
      have hfn : ¬ ts.any (fun t => t.nm.data.toList == b.data.toList) = true := fun h => hf (HFA.out.2 h)
      by_cases h16 : 16 ≤ ts.length
      · have h16i : (16 : Int) ≤ (ts.length : Int) := by omega
        have e0 : tableF ts [a.data.toList, b.data.toList] = ([], 3) := by rw [table2]; rw [if_neg (fun h => Bool.noConfusion (hb1.symm.trans h))]; rw [if_neg hfn, if_pos h16]
        go_wp2_with (go_at_call 74; refine HFI.out.mono ?_; rintro e w2 ⟨rfl, hb2⟩)
        rw [HRR.out, e0]
        exact ⟨_, _, rfl, rfl, fun h => absurd h (by decide), HB1.out.trans (hb2.mono (by omega))⟩
      have h16i : ¬ (16 : Int) ≤ (ts.length : Int) := by omega
      have e0 : tableF ts [a.data.toList, b.data.toList] = (ts ++ [⟨b, ⟨#[]⟩, []⟩], 0) := by rw [table2]; rw [if_neg (fun h => Bool.noConfusion (hb1.symm.trans h))]; rw [if_neg hfn, if_neg h16]
      have hxl : xs.length ≤ ts.length := Nat.le_of_eq HT1.out.len
      go_upto_region 12 with (go_at_call 74; refine HFI.out.mono ?_; rintro e w2 ⟨rfl, hb2⟩)
      have HT2 := Lib.hid (HT1.out.below hb2 (Nat.le_refl _))
      have HB2 := Lib.hid (HB1.out.trans (hb2.mono (by omega)))
      have HX2 : Hid (w2.heap[g]? = some (.cells #[.string b, .string ⟨#[]⟩, .slice none 0 0] 46)) := by show _ = _; rw [hb2.block g (by omega)]; exact HX1.out
      clear hb2 HT1 HB1 HX1 p0 p1 HFI HRD
      have hz2 := HB2.out.size
      have HT3 := Lib.hid (HT2.out.keep (w' := w2.alloc (.cells #[.string b, .string ⟨#[]⟩, .slice none 0 0] 46)) (by simp) (fun k hk => Below.heap_alloc w2 _ k hk))
      have hgz : w.heap.size ≤ w2.heap.size := hz2
      have HOW : Hid ((w2.alloc (.cells #[.string b, .string ⟨#[]⟩, .slice none 0 0] 46)).ownsRow B 46 3 (.slice Av ts.length cv) xs.length (xs.flatMap tbC)) := HT3.out.own
      clear HFA hfn
      go_wp2_with (first
        | (refine wpList_load_row rfl 46 (.tmp 6) rfl (g) rfl 46 #[.string b, .string ⟨#[]⟩, .slice none 0 0] (0, 0) _ HX2.out Tryd.underlying46 rfl (by rw [table_size]; rfl) ?_)
        | (at_builtin; refine wpList_appAt rfl (.tmp 52) (.tmp 54) 39 46 rfl Tryd.underlying39 _ tbC 3 56 table_info rfl (by decide) tbC_len tbC_one B (.slice Av ts.length cv) xs rfl HOW.out (.slice (some ⟨w2.heap.size, 0, none⟩) 1 1) [⟨b, ⟨#[]⟩, ⟨none, 0, 0⟩⟩] rfl (rdE_one_at tbC 3 tbC_len w2 _ rfl ⟨b, ⟨#[]⟩, ⟨none, 0, 0⟩⟩ 46) (by simp only [List.length_singleton]; omega) (by decide) (by simp; omega) ?_; intro v9 w9 hown9 hbel9 hgrow9 hat9))
      rw [HRR.out, e0]
      exact ⟨_, _, rfl, rfl, fun _ => ⟨_, _, _, HT3.out.push b ⟨#[]⟩ hown9 hgrow9 hat9⟩, hbel9 B w (Nat.le_refl _) (HB2.out.alloc (by omega) _)⟩
  · obtain ⟨a, b, c, rfl⟩ : ∃ a b c, ws = [a, b, c] := by
      match ws, h3 with
      | [a, b, c], _ => exact ⟨a, b, c, rfl⟩
    clear h3 h23
    change Hid (R = RetTab B w (tableF ts [a.data.toList, b.data.toList, c.data.toList])) at HRR
    have q1 := hcell 1 b 0 (.string b) rfl rfl
    rw [show o + (1 * 1 + 0) = o + 1 by omega] at q1
    have q2 := hcell 2 c 0 (.string c) rfl rfl
    rw [show o + (2 * 1 + 0) = o + 2 by omega] at q2
    have hcs : c.size ≤ maxLen := by have := hws c (by simp); unfold maxLen; omega
    have hbw : ∀ ob : Obj, bb < (w.alloc ob).heap.size := fun ob => by simp; omega
    have hbw2 := hbw (.cells #[.string b, .string ⟨#[]⟩, .slice none 0 0] 46)
    have hbs : b.size ≤ maxLen := by have := hws b (by simp); unfold maxLen; omega
    have HT1 := Lib.hid (HT.out.keep (w' := w.alloc (.cells #[.string b, .string c, .slice none 0 0] 46)) (by simp) (fun k hk => Below.heap_alloc w _ k hk))
    have HX1 : Hid ((w.alloc (.cells #[.string b, .string c, .slice none 0 0] 46)).heap[w.heap.size]? = some (.cells #[.string b, .string c, .slice none 0 0] 46)) := heap_alloc_new w _
    have HB1 : Hid (Below B w (w.alloc (.cells #[.string b, .string c, .slice none 0 0] 46))) := (Below.refl B w).alloc hB _
    have hz1 : (w.alloc (.cells #[.string b, .string c, .slice none 0 0] 46)).heap.size = w.heap.size + 1 := by simp
    go_enter Tryd.func87, Tryd.ntmps87
    go_upto_region 6 with fail
    clear hcell q1 q2 hbw2 hbw
    generalize hg : w.heap.size = g at HX1 hz1 hB ⊢
    generalize w.alloc (.cells #[.string b, .string c, .slice none 0 0] 46) = w1 at HT1 HX1 HB1 hz1 ⊢
    have p0 : w1.cell? ⟨g, 0, none⟩ = some (.string b) := by rw [cell_of_row _ _ _ _ _ _ HX1.out]; rfl
    have p1 : w1.cell? ⟨g, 1, none⟩ = some (.string c) := by rw [cell_of_row _ _ _ _ _ _ HX1.out]; rfl
    cases hb1 : nameL b.data.toList with
    | false =>
      have e0 : tableF ts [a.data.toList, b.data.toList, c.data.toList] = ([], 4) := by rw [table3]; rw [if_pos (.inl hb1)]
      have HN1 := Lib.hid (fun w => isname_any b w hbs)
      rw [hb1] at HN1
      go_wp2_with (go_at_call_of 58 (Value.string b); refine (HN1.out _).mono ?_; rintro e w' ⟨rfl, rfl⟩)
      rw [HRR.out, e0]
      exact ⟨_, _, rfl, rfl, fun h => absurd h (by decide), HB1.out⟩
    | true =>
      have HN1 := Lib.hid (fun w => isname_any b w hbs)
      rw [hb1] at HN1
      cases hc1 : nameL c.data.toList with
      | false =>
        have e0 : tableF ts [a.data.toList, b.data.toList, c.data.toList] = ([], 4) := by rw [table3]; rw [if_pos (.inr hc1)]
        have HN2 := Lib.hid (fun w => isname_any c w hcs)
        rw [hc1] at HN2
        go_wp2_with (first | (go_at_call_of 58 (Value.string b); refine (HN1.out _).mono ?_; rintro e w' ⟨rfl, rfl⟩) | (go_at_call_of 58 (Value.string c); refine (HN2.out _).mono ?_; rintro e w' ⟨rfl, rfl⟩))
        rw [HRR.out, e0]
        exact ⟨_, _, rfl, rfl, fun h => absurd h (by decide), HB1.out⟩
      | true =>
        have HN2 := Lib.hid (fun w => isname_any c w hcs)
        rw [hc1] at HN2
        have HRD := Lib.hid HT1.out.rd
        have HFI := Lib.hid (find_any ts _ b w1 HRD.out (by omega))
        have HFA := Lib.hid (find_any_iff ts b 0)
        go_upto_region 8 with (first | (go_at_call_of 58 (Value.string b); refine (HN1.out _).mono ?_; rintro e w' ⟨rfl, rfl⟩) | (go_at_call_of 58 (Value.string c); refine (HN2.out _).mono ?_; rintro e w' ⟨rfl, rfl⟩))
        generalize findF ts b 0 = fi at HFI HFA
        by_cases hf : 0 ≤ fi
        · have e0 : tableF ts [a.data.toList, b.data.toList, c.data.toList] = ([], 5) := by rw [table3]; rw [if_neg (by rintro (h | h); exact Bool.noConfusion (hb1.symm.trans h); exact Bool.noConfusion (hc1.symm.trans h))]; rw [if_pos (HFA.out.1 hf)]
          go_wp2_with (go_at_call 74; refine HFI.out.mono ?_; rintro e w2 ⟨rfl, hb2⟩)
          rw [HRR.out, e0]
          exact ⟨_, _, rfl, rfl, fun h => absurd h (by decide), HB1.out.trans (hb2.mono (by omega))⟩
        have hfl : fi < 0 := by omega
        have hfn : ¬ ts.any (fun t => t.nm.data.toList == b.data.toList) = true := fun h => hf (HFA.out.2 h)
        by_cases h16 : 16 ≤ ts.length
        · have h16i : (16 : Int) ≤ (ts.length : Int) := by omega
          have e0 : tableF ts [a.data.toList, b.data.toList, c.data.toList] = ([], 3) := by rw [table3]; rw [if_neg (by rintro (h | h); exact Bool.noConfusion (hb1.symm.trans h); exact Bool.noConfusion (hc1.symm.trans h))]; rw [if_neg hfn, if_pos h16]
          go_wp2_with (go_at_call 74; refine HFI.out.mono ?_; rintro e w2 ⟨rfl, hb2⟩)
          rw [HRR.out, e0]
          exact ⟨_, _, rfl, rfl, fun h => absurd h (by decide), HB1.out.trans (hb2.mono (by omega))⟩
        have h16i : ¬ (16 : Int) ≤ (ts.length : Int) := by omega
        have e0 : tableF ts [a.data.toList, b.data.toList, c.data.toList] = (ts ++ [⟨b, c, []⟩], 0) := by rw [table3]; rw [if_neg (by rintro (h | h); exact Bool.noConfusion (hb1.symm.trans h); exact Bool.noConfusion (hc1.symm.trans h))]; rw [if_neg hfn, if_neg h16]
        have hxl : xs.length ≤ ts.length := Nat.le_of_eq HT1.out.len
        go_upto_region 12 with (go_at_call 74; refine HFI.out.mono ?_; rintro e w2 ⟨rfl, hb2⟩)
        have HT2 := Lib.hid (HT1.out.below hb2 (Nat.le_refl _))
        have HB2 := Lib.hid (HB1.out.trans (hb2.mono (by omega)))
        have HX2 : Hid (w2.heap[g]? = some (.cells #[.string b, .string c, .slice none 0 0] 46)) := by show _ = _; rw [hb2.block g (by omega)]; exact HX1.out
        clear hb2 HT1 HB1 HX1 p0 p1 HFI HRD
        have hz2 := HB2.out.size
        have HT3 := Lib.hid (HT2.out.keep (w' := w2.alloc (.cells #[.string b, .string c, .slice none 0 0] 46)) (by simp) (fun k hk => Below.heap_alloc w2 _ k hk))
        have hgz : w.heap.size ≤ w2.heap.size := hz2
        have HOW : Hid ((w2.alloc (.cells #[.string b, .string c, .slice none 0 0] 46)).ownsRow B 46 3 (.slice Av ts.length cv) xs.length (xs.flatMap tbC)) := HT3.out.own
        clear HFA hfn
        go_wp2_with (first
          | (refine wpList_load_row rfl 46 (.tmp 6) rfl (g) rfl 46 #[.string b, .string c, .slice none 0 0] (0, 0) _ HX2.out Tryd.underlying46 rfl (by rw [table_size]; rfl) ?_)
          | (at_builtin; refine wpList_appAt rfl (.tmp 52) (.tmp 54) 39 46 rfl Tryd.underlying39 _ tbC 3 56 table_info rfl (by decide) tbC_len tbC_one B (.slice Av ts.length cv) xs rfl HOW.out (.slice (some ⟨w2.heap.size, 0, none⟩) 1 1) [⟨b, c, ⟨none, 0, 0⟩⟩] rfl (rdE_one_at tbC 3 tbC_len w2 _ rfl ⟨b, c, ⟨none, 0, 0⟩⟩ 46) (by simp only [List.length_singleton]; omega) (by decide) (by simp; omega) ?_; intro v9 w9 hown9 hbel9 hgrow9 hat9))
        rw [HRR.out, e0]
        exact ⟨_, _, rfl, rfl, fun _ => ⟨_, _, _, HT3.out.push b c hown9 hgrow9 hat9⟩, hbel9 B w (Nat.le_refl _) (HB2.out.alloc (by omega) _)⟩

end Go.Proofs.YtpboaadjbkaidaaDoor
