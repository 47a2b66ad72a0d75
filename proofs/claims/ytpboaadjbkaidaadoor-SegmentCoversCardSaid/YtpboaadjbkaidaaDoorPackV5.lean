/-
  Contracts and plain laws that this claim leans on, part 5.
-/
import Derived.Test.YtpboaadjbkaidaaDoorPackV4
import Derived.Deep.RegionLaw
import Derived.Test.YtpboaadjbkaidaaDoorPackV1
import Derived.WalkSpells
import Derived.Deep.DeepCutAuto
import Derived.Deep.CutBlock
import Derived.Deep.RegionWith
set_option linter.unusedVariables false
set_option linter.unusedSimpArgs false
namespace Go.Proofs.YtpboaadjbkaidaaDoor
set_option maxRecDepth 100000
open Go.RowKit

theorem table_info : (Tryd.prog.info? 46).map (fun i => (i.zero, i.size, i.bytes)) = some (some (.agg #[.string ⟨#[]⟩, .string ⟨#[]⟩, .slice none 0 0]), 3, 56) := by kernel_rfl
theorem rdE_one_at {α : Type} (f : α → List Value) (m : Nat) (_hm : ∀ x, (f x).length = m) (w : World) (g : Nat) (hg : w.heap.size = g) (x : α) (t : TypeId) : RdE f m (w.alloc (.cells (f x).toArray t)) (.slice (some ⟨g, 0, none⟩) 1 1) [x] := by
  subst hg
  refine ⟨some ⟨w.heap.size, 0, none⟩, 1, rfl, by simp, (fun h => by cases h), fun _ => ⟨w.heap.size, 0, rfl, by simp, fun i y j u hi hj => ?_⟩⟩
  have hi0 : i = 0 := by
    have := (List.getElem?_eq_some_iff.1 hi).1
    simpa using this
  subst hi0
  simp at hi
  subst hi
  have := cells_new w (f x) t j u hj
  rw [Addr.add_lit] at this
  simpa using this
theorem find_any_iff : ∀ (ts : List Tb) (b : ByteArray) (k : Nat), (0 ≤ findF ts b k) ↔ ts.any (fun t => t.nm.data.toList == b.data.toList) = true
  | [], _, _ => by simp [findF]
  | t :: ts, b, k => by
    rw [findF, List.any_cons, toList_eq_data, toList_eq_data]
    by_cases h : (t.nm.data.toList == b.data.toList) = true
    · rw [if_pos h, h]; simp
    · rw [if_neg h, find_any_iff ts b (k + 1)]
      simp at h
      simp [h]
theorem table2 (ts : List Tb) (a b : ByteArray) : tableF ts [a.data.toList, b.data.toList] = if nameL b.data.toList = false then ([], 4) else if ts.any (fun t => t.nm.data.toList == b.data.toList) = true then ([], 5) else if 16 ≤ ts.length then ([], 3) else (ts ++ [⟨b, ⟨#[]⟩, []⟩], 0) := by
  have e : ofL [] = ⟨#[]⟩ := rfl
  unfold tableF
  simp [ofL_of, e]
theorem table3 (ts : List Tb) (a b c : ByteArray) : tableF ts [a.data.toList, b.data.toList, c.data.toList] = if nameL b.data.toList = false ∨ nameL c.data.toList = false then ([], 4) else if ts.any (fun t => t.nm.data.toList == b.data.toList) = true then ([], 5) else if 16 ≤ ts.length then ([], 3) else (ts ++ [⟨b, c, []⟩], 0) := by
  unfold tableF
  simp [ofL_of]
/-- What a call gives that adds a line. -/
def RetTab (B : Nat) (w : World) (r : List Tb × Int) (e : Ending) (w' : World) : Prop := ∃ v x, e = .returned (.tuple #[v, .int .i64 x]) ∧ x = r.2 ∧ (r.2 = 0 → ∃ xs rv ys, TS 46 30 B w' v r.1 xs rv ys) ∧ Below B w w'

set_option maxRecDepth 100000 in
set_option maxHeartbeats 8000000 in
theorem addTable_any (B : Nat) (w : World) (v wv : Value) (ts : List Tb) (xs : List TbV) (rv : Sl) (ys : List RuV) (ws : List ByteArray) (ht : TS 46 30 B w v ts xs rv ys) (hw : RdE strC 1 w wv ws) (hB : B ≤ w.heap.size) (hl : ts.length ≤ 16) (hws : ∀ s ∈ ws, s.size ≤ 2147483648) :
    Calls Tryd.prog 87 #[v, wv] w (RetTab B w (tableF ts (ws.map fun s => s.data.toList))) := by
  obtain ⟨R, HRR⟩ : ∃ R, Hid (R = RetTab B w (tableF ts (ws.map fun s => s.data.toList))) := ⟨_, rfl⟩
  rw [← HRR.out]
  have HT := Lib.hid ht
  obtain ⟨Aw, cw, rfl, hlw, _⟩ := hw.shape
  obtain ⟨Av, cv, hv⟩ := ht.rd.shape
  by_cases h23 : ws.length ≠ 2 ∧ ws.length ≠ 3
  · have t1 : ((ws.length : Int) != 2) = true := bne_iff_ne.2 (by omega)
    have t2 : ((ws.length : Int) != 3) = true := bne_iff_ne.2 (by omega)
    have e0 : tableF ts (ws.map fun s => s.data.toList) = ([], 2) := by unfold tableF; rw [List.length_map, if_pos h23]
    go_enter Tryd.func87, Tryd.ntmps87
    go_wp2_with fail
    rw [HRR.out, e0]
    exact ⟨_, _, rfl, rfl, fun h => absurd h (by decide), Below.refl _ _⟩
  obtain ⟨bb, o, rfl, hbl, hcell⟩ := hw.cells (by omega)
  subst hv
  rcases (show ws.length = 2 ∨ ws.length = 3 by omega) with h2 | h3
  · obtain ⟨a, b, rfl⟩ : ∃ a b, ws = [a, b] := by
      match ws, h2 with
      | [a, b], _ => exact ⟨a, b, rfl⟩
    clear h2 h23
    change Hid (R = RetTab B w (tableF ts [a.data.toList, b.data.toList])) at HRR
    have q1 := hcell 1 b 0 (.string b) rfl rfl
    rw [show o + (1 * 1 + 0) = o + 1 by omega] at q1
    have hbs : b.size ≤ maxLen := by have := hws b (by simp); unfold maxLen; omega
    have HT1 := Lib.hid (HT.out.keep (w' := w.alloc (.cells #[.string b, .string ⟨#[]⟩, .slice none 0 0] 46)) (by simp) (fun k hk => Below.heap_alloc w _ k hk))
    have HX1 : Hid ((w.alloc (.cells #[.string b, .string ⟨#[]⟩, .slice none 0 0] 46)).heap[w.heap.size]? = some (.cells #[.string b, .string ⟨#[]⟩, .slice none 0 0] 46)) := heap_alloc_new w _
    have HB1 : Hid (Below B w (w.alloc (.cells #[.string b, .string ⟨#[]⟩, .slice none 0 0] 46))) := (Below.refl B w).alloc hB _
    have hz1 : (w.alloc (.cells #[.string b, .string ⟨#[]⟩, .slice none 0 0] 46)).heap.size = w.heap.size + 1 := by simp
    go_enter Tryd.func87, Tryd.ntmps87
    go_upto_region 6 with fail
    clear hcell q1
    generalize hg : w.heap.size = g at HX1 hz1 hB ⊢
    generalize w.alloc (.cells #[.string b, .string ⟨#[]⟩, .slice none 0 0] 46) = w1 at HT1 HX1 HB1 hz1 ⊢
    have p0 : w1.cell? ⟨g, 0, none⟩ = some (.string b) := by rw [cell_of_row _ _ _ _ _ _ HX1.out]; rfl
    have p1 : w1.cell? ⟨g, 1, none⟩ = some (.string ⟨#[]⟩) := by rw [cell_of_row _ _ _ _ _ _ HX1.out]; rfl
    cases hb1 : nameL b.data.toList with
    | false =>
      have e0 : tableF ts [a.data.toList, b.data.toList] = ([], 4) := by rw [table2]; rw [if_pos hb1]
      have HN1 := Lib.hid (fun w => isname_any b w hbs)
      rw [hb1] at HN1
      go_wp2_with (go_at_call_of 58 (Value.string b); refine (HN1.out _).mono ?_; rintro e w' ⟨rfl, rfl⟩)
      rw [HRR.out, e0]
      exact ⟨_, _, rfl, rfl, fun h => absurd h (by decide), HB1.out⟩
    | true =>
      have HN1 := Lib.hid (fun w => isname_any b w hbs)
      rw [hb1] at HN1
      have HRD := Lib.hid HT1.out.rd
      have HFI := Lib.hid (find_any ts _ b w1 HRD.out (by omega))
      have HFA := Lib.hid (find_any_iff ts b 0)
      go_upto_region 8 with (first | (go_at_call_of 58 (Value.string b); refine (HN1.out _).mono ?_; rintro e w' ⟨rfl, rfl⟩))
      generalize findF ts b 0 = fi at HFI HFA
      by_cases hf : 0 ≤ fi
      · have e0 : tableF ts [a.data.toList, b.data.toList] = ([], 5) := by rw [table2]; rw [if_neg (fun h => Bool.noConfusion (hb1.symm.trans h))]; rw [if_pos (HFA.out.1 hf)]
        go_wp2_with (go_at_call 74; refine HFI.out.mono ?_; rintro e w2 ⟨rfl, hb2⟩)
        rw [HRR.out, e0]
        exact ⟨_, _, rfl, rfl, fun h => absurd h (by decide), HB1.out.trans (hb2.mono (by omega))⟩
      have hfl : fi < 0 := by omega
      have hfn : ¬ ts.any (fun t => t.nm.data.toList == b.data.toList) = true := fun h => hf (HFA.out.2 h)
      by_cases h16 : 16 ≤ ts.length
      · have h16i : (16 : Int) ≤ (ts.length : Int) := by omega
        have e0 : tableF ts [a.data.toList, b.data.toList] = ([], 3) := by rw [table2]; rw [if_neg (fun h => Bool.noConfusion (hb1.symm.trans h))]; rw [if_neg hfn, if_pos h16]
        go_wp2_with (go_at_call 74; refine HFI.out.mono ?_; rintro e w2 ⟨rfl, hb2⟩)
        rw [HRR.out, e0]
        exact ⟨_, _, rfl, rfl, fun h => absurd h (by decide), HB1.out.trans (hb2.mono (by omega))⟩
      have h16i : ¬ (16 : Int) ≤ (ts.length : Int) := by omega
      have e0 : tableF ts [a.data.toList, b.data.toList] = (ts ++ [⟨b, ⟨#[]⟩, []⟩], 0) := by rw [table2]; rw [if_neg (fun h => Bool.noConfusion (hb1.symm.trans h))]; rw [if_neg hfn, if_neg h16]
      have hxl : xs.length ≤ ts.length := Nat.le_of_eq HT1.out.len
      go_upto_region 12 with (go_at_call 74; refine HFI.out.mono ?_; rintro e w2 ⟨rfl, hb2⟩)
      have HT2 := Lib.hid (HT1.out.below hb2 (Nat.le_refl _))
      have HB2 := Lib.hid (HB1.out.trans (hb2.mono (by omega)))
      have HX2 : Hid (w2.heap[g]? = some (.cells #[.string b, .string ⟨#[]⟩, .slice none 0 0] 46)) := by show _ = _; rw [hb2.block g (by omega)]; exact HX1.out
      clear hb2 HT1 HB1 HX1 p0 p1 HFI HRD
      have hz2 := HB2.out.size
      have HT3 := Lib.hid (HT2.out.keep (w' := w2.alloc (.cells #[.string b, .string ⟨#[]⟩, .slice none 0 0] 46)) (by simp) (fun k hk => Below.heap_alloc w2 _ k hk))
      have hgz : w.heap.size ≤ w2.heap.size := hz2
      have HOW : Hid ((w2.alloc (.cells #[.string b, .string ⟨#[]⟩, .slice none 0 0] 46)).ownsRow B 46 3 (.slice Av ts.length cv) xs.length (xs.flatMap tbC)) := HT3.out.own
      clear HFA hfn
      go_wp2_with (first
        | (refine wpList_load_row rfl 46 (.tmp 6) rfl (g) rfl 46 #[.string b, .string ⟨#[]⟩, .slice none 0 0] (0, 0) _ HX2.out Tryd.underlying46 rfl (by rw [table_size]; rfl) ?_)
        | (at_builtin; refine wpList_appAt rfl (.tmp 52) (.tmp 54) 39 46 rfl Tryd.underlying39 _ tbC 3 56 table_info rfl (by decide) tbC_len tbC_one B (.slice Av ts.length cv) xs rfl HOW.out (.slice (some ⟨w2.heap.size, 0, none⟩) 1 1) [⟨b, ⟨#[]⟩, ⟨none, 0, 0⟩⟩] rfl (rdE_one_at tbC 3 tbC_len w2 _ rfl ⟨b, ⟨#[]⟩, ⟨none, 0, 0⟩⟩ 46) (by simp only [List.length_singleton]; omega) (by decide) (by simp; omega) ?_; intro v9 w9 hown9 hbel9 hgrow9 hat9))
      rw [HRR.out, e0]
      exact ⟨_, _, rfl, rfl, fun _ => ⟨_, _, _, HT3.out.push b ⟨#[]⟩ hown9 hgrow9 hat9⟩, hbel9 B w (Nat.le_refl _) (HB2.out.alloc (by omega) _)⟩
  · obtain ⟨a, b, c, rfl⟩ : ∃ a b c, ws = [a, b, c] := by
      match ws, h3 with
      | [a, b, c], _ => exact ⟨a, b, c, rfl⟩
    clear h3 h23
    change Hid (R = RetTab B w (tableF ts [a.data.toList, b.data.toList, c.data.toList])) at HRR
    have q1 := hcell 1 b 0 (.string b) rfl rfl
    rw [show o + (1 * 1 + 0) = o + 1 by omega] at q1
    have q2 := hcell 2 c 0 (.string c) rfl rfl
    rw [show o + (2 * 1 + 0) = o + 2 by omega] at q2
    have hcs : c.size ≤ maxLen := by have := hws c (by simp); unfold maxLen; omega
    have hbw : ∀ ob : Obj, bb < (w.alloc ob).heap.size := fun ob => by simp; omega
    have hbw2 := hbw (.cells #[.string b, .string ⟨#[]⟩, .slice none 0 0] 46)
    have hbs : b.size ≤ maxLen := by have := hws b (by simp); unfold maxLen; omega
    have HT1 := Lib.hid (HT.out.keep (w' := w.alloc (.cells #[.string b, .string c, .slice none 0 0] 46)) (by simp) (fun k hk => Below.heap_alloc w _ k hk))
    have HX1 : Hid ((w.alloc (.cells #[.string b, .string c, .slice none 0 0] 46)).heap[w.heap.size]? = some (.cells #[.string b, .string c, .slice none 0 0] 46)) := heap_alloc_new w _
    have HB1 : Hid (Below B w (w.alloc (.cells #[.string b, .string c, .slice none 0 0] 46))) := (Below.refl B w).alloc hB _
    have hz1 : (w.alloc (.cells #[.string b, .string c, .slice none 0 0] 46)).heap.size = w.heap.size + 1 := by simp
    go_enter Tryd.func87, Tryd.ntmps87
    go_upto_region 6 with fail
    clear hcell q1 q2 hbw2 hbw
    generalize hg : w.heap.size = g at HX1 hz1 hB ⊢
    generalize w.alloc (.cells #[.string b, .string c, .slice none 0 0] 46) = w1 at HT1 HX1 HB1 hz1 ⊢
    have p0 : w1.cell? ⟨g, 0, none⟩ = some (.string b) := by rw [cell_of_row _ _ _ _ _ _ HX1.out]; rfl
    have p1 : w1.cell? ⟨g, 1, none⟩ = some (.string c) := by rw [cell_of_row _ _ _ _ _ _ HX1.out]; rfl
    cases hb1 : nameL b.data.toList with
    | false =>
      have e0 : tableF ts [a.data.toList, b.data.toList, c.data.toList] = ([], 4) := by rw [table3]; rw [if_pos (.inl hb1)]
      have HN1 := Lib.hid (fun w => isname_any b w hbs)
      rw [hb1] at HN1
      go_wp2_with (go_at_call_of 58 (Value.string b); refine (HN1.out _).mono ?_; rintro e w' ⟨rfl, rfl⟩)
      rw [HRR.out, e0]
      exact ⟨_, _, rfl, rfl, fun h => absurd h (by decide), HB1.out⟩
    | true =>
      have HN1 := Lib.hid (fun w => isname_any b w hbs)
      rw [hb1] at HN1
      cases hc1 : nameL c.data.toList with
      | false =>
        have e0 : tableF ts [a.data.toList, b.data.toList, c.data.toList] = ([], 4) := by rw [table3]; rw [if_pos (.inr hc1)]
        have HN2 := Lib.hid (fun w => isname_any c w hcs)
        rw [hc1] at HN2
        go_wp2_with (first | (go_at_call_of 58 (Value.string b); refine (HN1.out _).mono ?_; rintro e w' ⟨rfl, rfl⟩) | (go_at_call_of 58 (Value.string c); refine (HN2.out _).mono ?_; rintro e w' ⟨rfl, rfl⟩))
        rw [HRR.out, e0]
        exact ⟨_, _, rfl, rfl, fun h => absurd h (by decide), HB1.out⟩
      | true =>
        have HN2 := Lib.hid (fun w => isname_any c w hcs)
        rw [hc1] at HN2
        have HRD := Lib.hid HT1.out.rd
        have HFI := Lib.hid (find_any ts _ b w1 HRD.out (by omega))
        have HFA := Lib.hid (find_any_iff ts b 0)
        go_upto_region 8 with (first | (go_at_call_of 58 (Value.string b); refine (HN1.out _).mono ?_; rintro e w' ⟨rfl, rfl⟩) | (go_at_call_of 58 (Value.string c); refine (HN2.out _).mono ?_; rintro e w' ⟨rfl, rfl⟩))
        generalize findF ts b 0 = fi at HFI HFA
        by_cases hf : 0 ≤ fi
        · have e0 : tableF ts [a.data.toList, b.data.toList, c.data.toList] = ([], 5) := by rw [table3]; rw [if_neg (by rintro (h | h); exact Bool.noConfusion (hb1.symm.trans h); exact Bool.noConfusion (hc1.symm.trans h))]; rw [if_pos (HFA.out.1 hf)]
          go_wp2_with (go_at_call 74; refine HFI.out.mono ?_; rintro e w2 ⟨rfl, hb2⟩)
          rw [HRR.out, e0]
          exact ⟨_, _, rfl, rfl, fun h => absurd h (by decide), HB1.out.trans (hb2.mono (by omega))⟩
        have hfl : fi < 0 := by omega
        have hfn : ¬ ts.any (fun t => t.nm.data.toList == b.data.toList) = true := fun h => hf (HFA.out.2 h)
        by_cases h16 : 16 ≤ ts.length
        · have h16i : (16 : Int) ≤ (ts.length : Int) := by omega
          have e0 : tableF ts [a.data.toList, b.data.toList, c.data.toList] = ([], 3) := by rw [table3]; rw [if_neg (by rintro (h | h); exact Bool.noConfusion (hb1.symm.trans h); exact Bool.noConfusion (hc1.symm.trans h))]; rw [if_neg hfn, if_pos h16]
          go_wp2_with (go_at_call 74; refine HFI.out.mono ?_; rintro e w2 ⟨rfl, hb2⟩)
          rw [HRR.out, e0]
          exact ⟨_, _, rfl, rfl, fun h => absurd h (by decide), HB1.out.trans (hb2.mono (by omega))⟩
        have h16i : ¬ (16 : Int) ≤ (ts.length : Int) := by omega
        have e0 : tableF ts [a.data.toList, b.data.toList, c.data.toList] = (ts ++ [⟨b, c, []⟩], 0) := by rw [table3]; rw [if_neg (by rintro (h | h); exact Bool.noConfusion (hb1.symm.trans h); exact Bool.noConfusion (hc1.symm.trans h))]; rw [if_neg hfn, if_neg h16]
        have hxl : xs.length ≤ ts.length := Nat.le_of_eq HT1.out.len
        go_upto_region 12 with (go_at_call 74; refine HFI.out.mono ?_; rintro e w2 ⟨rfl, hb2⟩)
        have HT2 := Lib.hid (HT1.out.below hb2 (Nat.le_refl _))
        have HB2 := Lib.hid (HB1.out.trans (hb2.mono (by omega)))
        have HX2 : Hid (w2.heap[g]? = some (.cells #[.string b, .string c, .slice none 0 0] 46)) := by show _ = _; rw [hb2.block g (by omega)]; exact HX1.out
        clear hb2 HT1 HB1 HX1 p0 p1 HFI HRD
        have hz2 := HB2.out.size
        have HT3 := Lib.hid (HT2.out.keep (w' := w2.alloc (.cells #[.string b, .string c, .slice none 0 0] 46)) (by simp) (fun k hk => Below.heap_alloc w2 _ k hk))
        have hgz : w.heap.size ≤ w2.heap.size := hz2
        have HOW : Hid ((w2.alloc (.cells #[.string b, .string c, .slice none 0 0] 46)).ownsRow B 46 3 (.slice Av ts.length cv) xs.length (xs.flatMap tbC)) := HT3.out.own
        clear HFA hfn
        go_wp2_with (first
          | (refine wpList_load_row rfl 46 (.tmp 6) rfl (g) rfl 46 #[.string b, .string c, .slice none 0 0] (0, 0) _ HX2.out Tryd.underlying46 rfl (by rw [table_size]; rfl) ?_)
          | (at_builtin; refine wpList_appAt rfl (.tmp 52) (.tmp 54) 39 46 rfl Tryd.underlying39 _ tbC 3 56 table_info rfl (by decide) tbC_len tbC_one B (.slice Av ts.length cv) xs rfl HOW.out (.slice (some ⟨w2.heap.size, 0, none⟩) 1 1) [⟨b, c, ⟨none, 0, 0⟩⟩] rfl (rdE_one_at tbC 3 tbC_len w2 _ rfl ⟨b, c, ⟨none, 0, 0⟩⟩ 46) (by simp only [List.length_singleton]; omega) (by decide) (by simp; omega) ?_; intro v9 w9 hown9 hbel9 hgrow9 hat9))
        rw [HRR.out, e0]
        exact ⟨_, _, rfl, rfl, fun _ => ⟨_, _, _, HT3.out.push b c hown9 hgrow9 hat9⟩, hbel9 B w (Nat.le_refl _) (HB2.out.alloc (by omega) _)⟩

end Go.Proofs.YtpboaadjbkaidaaDoor

namespace Go.Proofs.YtpboaadjbkaidaaDoor
set_option maxRecDepth 100000
open Go.RowKit

theorem rule_info : (Tryd.prog.info? 30).map (fun i => (i.zero, i.size, i.bytes)) = some (some (.agg #[.bool false, .slice none 0 0, .slice none 0 0]), 3, 56) := by kernel_rfl
theorem box3 {w : World} {b : Nat} {v0 v1 v2 : Value} {t : TypeId} (h : w.heap[b]? = some (.cells #[v0, v1, v2] t)) :
    w.cell? ⟨b, 0, none⟩ = some v0 ∧ w.cell? ⟨b, 1, none⟩ = some v1 ∧ w.cell? ⟨b, 2, none⟩ = some v2 ∧ w.frozen? ⟨b, 0, none⟩ = false ∧ w.frozen? ⟨b, 1, none⟩ = false ∧ w.frozen? ⟨b, 2, none⟩ = false :=
  ⟨by rw [cell_of_row _ _ 0 _ _ _ h]; rfl, by rw [cell_of_row _ _ 1 _ _ _ h]; rfl, by rw [cell_of_row _ _ 2 _ _ _ h]; rfl, frozen_of_row w b 0 _ _ h, frozen_of_row w b 1 _ _ h, frozen_of_row w b 2 _ _ h⟩
theorem set_row1 {w : World} {b : Nat} {cs : Array Value} {t : TypeId} (h : w.heap[b]? = some (.cells cs t)) (j : Nat) (u : Value) : (w.setCell ⟨b, j, none⟩ u).heap[b]? = some (.cells (cs.setIfInBounds j u) t) :=
  heap_setCell_same w b j _ _ _ h
theorem rule3 (ts : List Tb) (a b c : ByteArray) (h : ts ≠ []) : ruleF ts [a.data.toList, b.data.toList, c.data.toList] = if (sideF b.data.toList).2 ≠ 0 then ([], (sideF b.data.toList).2) else if (sideF c.data.toList).2 ≠ 0 then ([], (sideF c.data.toList).2) else if 32 ≤ ((ts.getLast?.map (·.rs)).getD []).length then ([], 3) else (addLast ts ⟨a.data.toList == wBreak, (sideF b.data.toList).1, (sideF c.data.toList).1⟩, 0) := by
  unfold ruleF
  rw [if_neg (by simp), if_neg h]
  rfl

set_option maxRecDepth 100000 in
set_option maxHeartbeats 8000000 in
theorem addRule_any (B : Nat) (w : World) (v wv : Value) (ts : List Tb) (xs : List TbV) (rv : Sl) (ys : List RuV) (ws : List ByteArray) (ht : TS 46 30 B w v ts xs rv ys) (hw : RdE strC 1 w wv ws) (hB : B ≤ w.heap.size) (hl : ts.length ≤ 16) (hws : ∀ s ∈ ws, s.size ≤ 2147483648) :
    Calls Tryd.prog 88 #[v, wv] w (RetTab B w (ruleF ts (ws.map fun s => s.data.toList))) := by
  obtain ⟨R, HRR⟩ : ∃ R, Hid (R = RetTab B w (ruleF ts (ws.map fun s => s.data.toList))) := ⟨_, rfl⟩
  rw [← HRR.out]
  have HT := Lib.hid ht
  obtain ⟨Aw, cw, rfl, hlw, _⟩ := hw.shape
  obtain ⟨Av, cv, hv⟩ := ht.rd.shape
  by_cases h3 : ws.length ≠ 3
  · have t2 : ((ws.length : Int) != 3) = true := bne_iff_ne.2 (by omega)
    have e0 : ruleF ts (ws.map fun s => s.data.toList) = ([], 2) := by unfold ruleF; rw [List.length_map, if_pos h3]
    subst hv
    go_enter Tryd.func88, Tryd.ntmps88
    go_wp2_with fail
    rw [HRR.out, e0]
    exact ⟨_, _, rfl, rfl, fun h => absurd h (by decide), Below.refl _ _⟩
  obtain ⟨bb, o, rfl, hbl, hcell⟩ := hw.cells (by omega)
  obtain ⟨a, b, c, rfl⟩ : ∃ a b c, ws = [a, b, c] := by
    match ws, (show ws.length = 3 by omega) with
    | [a, b, c], _ => exact ⟨a, b, c, rfl⟩
  clear h3
  change Hid (R = RetTab B w (ruleF ts [a.data.toList, b.data.toList, c.data.toList])) at HRR
  by_cases h0 : ts.length = 0
  · obtain rfl : ts = [] := List.eq_nil_of_length_eq_zero h0
    have e0 : ruleF [] [a.data.toList, b.data.toList, c.data.toList] = ([], 8) := rfl
    subst hv
    go_enter Tryd.func88, Tryd.ntmps88
    go_wp2_with fail
    rw [HRR.out, e0]
    exact ⟨_, _, rfl, rfl, fun h => absurd h (by decide), Below.refl _ _⟩
  obtain ⟨n, hn⟩ : ∃ n, ts.length = n + 1 := ⟨ts.length - 1, by omega⟩
  obtain ⟨gT, cT, hvT, hBT⟩ := own_some ht.own (by rw [ht.len]; omega)
  rw [ht.len, hn] at hvT
  rw [hv] at hvT
  have q0 := hcell 0 a 0 (.string a) rfl rfl
  rw [show o + (0 * 1 + 0) = o by omega] at q0
  have q1 := hcell 1 b 0 (.string b) rfl rfl
  rw [show o + (1 * 1 + 0) = o + 1 by omega] at q1
  have q2 := hcell 2 c 0 (.string c) rfl rfl
  rw [show o + (2 * 1 + 0) = o + 2 by omega] at q2
  clear hcell
  obtain ⟨bk, hbk⟩ : ∃ bk, (a.toList == [98, 114, 101, 97, 107]) = bk := ⟨_, rfl⟩
  have hbk2 : Hid (bk = (a.data.toList == wBreak)) := by show _ = _; rw [← hbk, toList_eq_data]; rfl
  have HS1 := Lib.hid (fun w => side_any b w (hws b (by simp)))
  have HS2 := Lib.hid (fun w => side_any c w (hws c (by simp)))
  have HE : Hid (ruleF ts [a.data.toList, b.data.toList, c.data.toList] = if (sideF b.data.toList).2 ≠ 0 then ([], (sideF b.data.toList).2) else if (sideF c.data.toList).2 ≠ 0 then ([], (sideF c.data.toList).2) else if 32 ≤ ((ts.getLast?.map (·.rs)).getD []).length then ([], 3) else (addLast ts ⟨bk, (sideF b.data.toList).1, (sideF c.data.toList).1⟩, 0)) := by
    show _ = _
    rw [hbk2.out]
    exact rule3 ts a b c (fun e => h0 (by rw [e]; rfl))
  generalize ruleF ts [a.data.toList, b.data.toList, c.data.toList] = rr at HE HRR
  generalize hs1 : sideF b.data.toList = s1 at HE
  generalize hs2 : sideF c.data.toList = s2 at HE
  obtain ⟨p1, x1⟩ := s1
  obtain ⟨p2, x2⟩ := s2
  unfold RetSide at HS1 HS2
  rw [hs1] at HS1
  rw [hs2] at HS2
  simp only at HS1 HS2 HE
  clear hs1 hs2 hbk2
  rw [hn] at hv
  have hAT : Av = some ⟨gT, 0, none⟩ ∧ cv = cT := by injection hvT with e1 _ e2; exact ⟨e1, e2⟩
  obtain ⟨rfl, rfl⟩ := hAT
  clear hvT
  obtain ⟨w1, hw1⟩ : ∃ w1, w1 = w.alloc (.cells #[.bool bk, (.slice none 0 0), (.slice none 0 0)] 30) := ⟨_, rfl⟩
  have hgT : gT < w.heap.size := (ht.own.lt gT (by rw [hv]; rfl)).2
  subst hv
  go_enter Tryd.func88, Tryd.ntmps88
  have hb1 : bb < (w.alloc (.cells #[.bool bk, (.slice none 0 0), (.slice none 0 0)] 30)).heap.size := by simp; omega
  go_upto_region 7 with fail
  rw [← hw1]
  have hz1 : w1.heap.size = w.heap.size + 1 := by rw [hw1]; simp
  have HX1 : Hid (w1.heap[w.heap.size]? = some (.cells #[.bool bk, (.slice none 0 0), (.slice none 0 0)] 30)) := by show _ = _; rw [hw1]; exact heap_alloc_new w _
  have HB1 : Hid (Below w.heap.size w w1) := by show Below _ _ _; rw [hw1]; exact (Below.refl _ w).alloc (Nat.le_refl _) _
  have r1 : w1.cell? ⟨bb, o + 1, none⟩ = some (.string b) := (HB1.out.cell (p := ⟨bb, o + 1, none⟩) hbl).trans q1
  clear hw1 q0 q1 hb1 hbk
  generalize hg : w.heap.size = g at hz1 HX1 ⊢
  go_wp2_with fail
  refine (HS1.out _).mono ?_
  rintro e w2 ⟨v1, y1, rfl, hy1, ho1, hb2⟩
  subst hy1
  obtain ⟨A1, c1, hv1⟩ := own_shape ho1
  subst hv1
  have HX2 : Hid (w2.heap[g]? = some (.cells #[.bool bk, (.slice none 0 0), (.slice none 0 0)] 30)) := by (show _ = _; rw [hb2.block g (by omega)]; exact HX1.out)
  obtain ⟨z0, z1, z2, y0, y3, y2⟩ := box3 HX2.out
  go_upto_region 8 with fail
  have hz2 := hb2.size
  have HX3 : Hid ((w2.setCell ⟨g, 1, none⟩ (.slice A1 p1.length c1)).heap[g]? = some (.cells #[.bool bk, (.slice A1 p1.length c1), (.slice none 0 0)] 30)) := set_row1 HX2.out 1 _
  have HO3 : Hid (OwnE 26 atC 34 (w2.setCell ⟨g, 1, none⟩ (.slice A1 p1.length c1)) w1.heap.size (.slice A1 p1.length c1) p1) := own_setAt (g := g) ho1 (fun k hk e => by have := (World.ownsRow.lt ho1 k hk).1; omega) _ _
  have HB3 : Hid (Below w.heap.size w (w2.setCell ⟨g, 1, none⟩ (.slice A1 p1.length c1))) := (HB1.out.trans (hb2.mono (by omega))).setCell (p := ⟨g, 1, none⟩) (show w.heap.size ≤ g by omega) _
  have hz3 : w1.heap.size ≤ (w2.setCell ⟨g, 1, none⟩ (.slice A1 p1.length c1)).heap.size := by simpa [World.setCell] using hz2
  clear HX2 ho1 hb2 z0 z1 z2 y0 y2 y3 r1 hz2
  generalize w2.setCell ⟨g, 1, none⟩ (.slice A1 p1.length c1) = w3 at HX3 HO3 HB3 hz3 ⊢
  have r2 : w3.cell? ⟨bb, o + 2, none⟩ = some (.string c) := (HB3.out.cell (p := ⟨bb, o + 2, none⟩) hbl).trans q2
  clear q2
  by_cases hx1 : y1 ≠ 0
  · have t1 : (y1 != 0) = true := bne_iff_ne.2 hx1
    go_wp2_with fail
    rw [HRR.out, HE.out, if_pos hx1]
    exact ⟨_, _, rfl, rfl, fun h => absurd h hx1, HB3.out.mono hB⟩
  have t1 : (y1 != 0) = false := by simpa using hx1
  go_wp2_with fail
  refine (HS2.out _).mono ?_
  rintro e w4 ⟨v2, y2, rfl, hy2, ho2, hb4⟩
  subst hy2
  obtain ⟨A2, c2, hv2⟩ := own_shape ho2
  subst hv2
  have HX4 : Hid (w4.heap[g]? = some (.cells #[.bool bk, (.slice A1 p1.length c1), (.slice none 0 0)] 30)) := by (show _ = _; rw [hb4.block g (by omega)]; exact HX3.out)
  obtain ⟨z0, z1, z2, y0, y3, y4⟩ := box3 HX4.out
  go_upto_region 11 with fail
  have hz4 := hb4.size
  have HX5 : Hid ((w4.setCell ⟨g, 2, none⟩ (.slice A2 p2.length c2)).heap[g]? = some (.cells #[.bool bk, (.slice A1 p1.length c1), (.slice A2 p2.length c2)] 30)) := set_row1 HX4.out 2 _
  have HO5 : Hid (OwnE 26 atC 34 (w4.setCell ⟨g, 2, none⟩ (.slice A2 p2.length c2)) w1.heap.size (.slice A1 p1.length c1) p1) := own_setAt (g := g) (own_below HO3.out hb4 (Nat.le_refl _)) (fun k hk e => by have := (World.ownsRow.lt HO3.out k hk).1; omega) _ _
  have HP5 : Hid (OwnE 26 atC 34 (w4.setCell ⟨g, 2, none⟩ (.slice A2 p2.length c2)) w3.heap.size (.slice A2 p2.length c2) p2) := own_setAt (g := g) ho2 (fun k hk e => by have := (World.ownsRow.lt ho2 k hk).1; omega) _ _
  have HB5 : Hid (Below w.heap.size w (w4.setCell ⟨g, 2, none⟩ (.slice A2 p2.length c2))) := (HB3.out.trans (hb4.mono (by omega))).setCell (p := ⟨g, 2, none⟩) (show w.heap.size ≤ g by omega) _
  clear HX4 ho2 hb4 z0 z1 z2 y0 y3 y4 r2 HX3 HO3 HB3
  generalize w4.setCell ⟨g, 2, none⟩ (.slice A2 p2.length c2) = w5 at HX5 HO5 HP5 HB5 ⊢
  by_cases hx2 : y2 ≠ 0
  · have t2 : (y2 != 0) = true := bne_iff_ne.2 hx2
    go_wp2_with fail
    rw [HRR.out, HE.out, if_neg hx1, if_pos hx2]
    exact ⟨_, _, rfl, rfl, fun h => absurd h hx2, HB5.out.mono hB⟩
  have t2 : (y2 != 0) = false := by simpa using hx2
  obtain ⟨z0, z1, z2, _, _, _⟩ := box3 HX5.out
  have HT5 := Lib.hid (HT.out.below HB5.out (Nat.le_refl _))
  obtain ⟨rA, rn, rc⟩ := rv
  obtain ⟨Ar, cr, hr⟩ := own_shape HT5.out.rown
  have hrn : rn = ys.length := by unfold Sl.v at hr; injection hr
  subst hrn
  have hxn : n < xs.length := by have := HT.out.len; omega
  have htn : n < ts.length := by omega
  have hxg : xs[n]? = some xs[n] := List.getElem?_eq_getElem hxn
  have htg : ts[n]? = some ts[n] := List.getElem?_eq_getElem htn
  obtain ⟨hxr, hyl, _⟩ := HT5.out.last n _ _ hxg htg (by omega)
  have hlast : ((ts.getLast?.map (·.rs)).getD []).length = ys.length := by
    rw [List.getLast?_eq_getElem?, hn, show n + 1 - 1 = n by omega, htg, hyl]
    rfl
  rw [hlast, if_neg hx1, if_neg hx2] at HE
  clear hyl hlast
  have HQ : Hid (w5.cell? ⟨gT, n * 3 + 2, none⟩ = some (.slice rA ys.length rc)) := by
    show _ = _
    have h := HT5.out.own
    unfold OwnE at h
    have hxl : xs.length = n + 1 := by rw [HT.out.len, hn]
    rw [hxl] at h
    rw [h.cellAt (n * 3 + 2) (by omega), flat_get tbC 3 tbC_len xs n 2 _ hxg (by omega)]
    show some xs[n].r.v = _
    rw [hxr]
    rfl
  have HF : Hid (w5.frozen? ⟨gT, n * 3 + 2, none⟩ = false) := by
    have h := HT5.out.own
    unfold OwnE at h
    have hxl : xs.length = n + 1 := by rw [HT.out.len, hn]
    rw [hxl] at h
    exact h.frozenAt (n * 3 + 2)
  have qT := HQ.out
  have hT5 : gT < w5.heap.size := Nat.lt_of_lt_of_le hgT HB5.out.size
  have hn0 : (0 : Int) ≤ (n : Int) := by omega
  by_cases h32 : 32 ≤ ys.length
  · have h32i : (32 : Int) ≤ (ys.length : Int) := by omega
    go_wp2_with fail
    rw [HRR.out, HE.out, if_pos h32]
    exact ⟨_, _, rfl, rfl, fun h => absurd h (by decide), HB5.out.mono hB⟩
  have h32i : ¬ (32 : Int) ≤ (ys.length : Int) := by omega
  rw [if_neg h32] at HE
  have hTR : (Value.slice rA ys.length rc).ownBlock ≠ some gT := HT.out.apart gT rfl
  have HT6 := Lib.hid (HT5.out.keep (w' := w5.drew.alloc (.cells (ruC ⟨bk, ⟨A1, p1.length, c1⟩, ⟨A2, p2.length, c2⟩⟩).toArray 30)) (by simp) (fun k hk => Below.heap_alloc w5 _ k hk))
  have HOR : Hid ((w5.drew.alloc (.cells (ruC ⟨bk, ⟨A1, p1.length, c1⟩, ⟨A2, p2.length, c2⟩⟩).toArray 30)).ownsRow B 30 3 (.slice rA ys.length rc) ys.length (ys.flatMap ruC)) := HT6.out.rown
  have hb6 : (w5.drew.alloc (.cells (ruC ⟨bk, ⟨A1, p1.length, c1⟩, ⟨A2, p2.length, c2⟩⟩).toArray 30)).heap[gT]? = w5.heap[gT]? := Below.heap_alloc w5 _ gT hT5
  have HQT : Hid ((w5.drew.alloc (.cells (ruC ⟨bk, ⟨A1, p1.length, c1⟩, ⟨A2, p2.length, c2⟩⟩).toArray 30)).cell? ⟨gT, n * 3 + 2, none⟩ = some (.slice rA ys.length rc)) := (World.cell?_of_block (w := w5) hb6).trans HQ.out
  have HFT : Hid ((w5.drew.alloc (.cells (ruC ⟨bk, ⟨A1, p1.length, c1⟩, ⟨A2, p2.length, c2⟩⟩).toArray 30)).frozen? ⟨gT, n * 3 + 2, none⟩ = false) := (World.frozen?_of_block (w := w5) hb6).trans HF.out
  have HK5 : Hid (Keep (blkL (.slice (some ⟨gT, 0, none⟩) (n + 1) cv) ++ blkL (Sl.v ⟨rA, ys.length, rc⟩)) w5 fun u => RdE atC 34 u (.slice A1 p1.length c1) p1 ∧ RdE atC 34 u (.slice A2 p2.length c2) p2) := by
    have hX : ∀ b ∈ blkL (.slice (some ⟨gT, 0, none⟩) (n + 1) cv) ++ blkL (Sl.v ⟨rA, ys.length, rc⟩), b < w.heap.size := fun b hb => by
      rcases List.mem_append.1 hb with hb | hb
      · have e : gT = b := by simpa [Value.ownBlock] using mem_blkL.1 hb
        omega
      · exact (World.ownsRow.lt HT.out.rown b (mem_blkL.1 hb)).2
    exact (OwnE.keepX atC_len HO5.out (fun b hb => .inl (by have := hX b hb; omega))).and (OwnE.keepX atC_len HP5.out (fun b hb => .inl (by have := hX b hb; omega)))
  have HK6 := Lib.hid (HK5.out.step (w' := w5.drew.alloc (.cells (ruC ⟨bk, ⟨A1, p1.length, c1⟩, ⟨A2, p2.length, c2⟩⟩).toArray 30)) (by simp) (fun b hb hX => ⟨Below.heap_alloc w5 _ b hb, hX⟩))
  have HB6 : Hid (Below B w (w5.drew.alloc (.cells (ruC ⟨bk, ⟨A1, p1.length, c1⟩, ⟨A2, p2.length, c2⟩⟩).toArray 30))) := ((HB5.out.mono hB).drew).alloc (Nat.le_trans hB HB5.out.size) _
  clear HK5
  go_upto_region 16 with fail
  go_region_law (first
    | (refine step_appE rfl (.tmp 57) (.tmp 59) 31 30 rfl Tryd.underlying31 _ ruC 3 56 rule_info rfl (by decide) ruC_len ruC_one B (.slice rA ys.length rc) ys (by simp [Act.eval, Act.put]) (by exact HOR.out) (.slice (some ⟨w5.heap.size, 0, none⟩) 1 1) [⟨bk, ⟨A1, p1.length, c1⟩, ⟨A2, p2.length, c2⟩⟩] (by simp [Act.eval, Act.put]) (by exact rdE_one_at ruC 3 ruC_len w5.drew _ rfl ⟨bk, ⟨A1, p1.length, c1⟩, ⟨A2, p2.length, c2⟩⟩ 30) (by simp only [List.length_singleton]; omega) (by decide) (by simp; omega) ?_
       intro v7 w7 hown7 hbel7 hgr7 hat7
       obtain ⟨A7, c7, hv7⟩ := own_shape hown7
       subst hv7
       have hb7 : w7.heap[gT]? = (w5.drew.alloc (.cells (ruC ⟨bk, ⟨A1, p1.length, c1⟩, ⟨A2, p2.length, c2⟩⟩).toArray 30)).heap[gT]? := hgr7.block gT (by simp; omega) (by intro e; exact hTR e.symm)
       have f1 : w7.cell? ⟨gT, n * 3 + 2, none⟩ = some (.slice rA ys.length rc) := (World.cell?_of_block (w := w5.drew.alloc (.cells (ruC ⟨bk, ⟨A1, p1.length, c1⟩, ⟨A2, p2.length, c2⟩⟩).toArray 30)) hb7).trans HQT.out
       have f2 : w7.frozen? ⟨gT, n * 3 + 2, none⟩ = false := (World.frozen?_of_block (w := w5.drew.alloc (.cells (ruC ⟨bk, ⟨A1, p1.length, c1⟩, ⟨A2, p2.length, c2⟩⟩).toArray 30)) hb7).trans HFT.out
       have HN7 := Lib.hid hown7
       have HL7 := Lib.hid hbel7
       have HG7 := Lib.hid hgr7
       have HA7 := Lib.hid hat7
       clear hown7 hbel7 hgr7 hat7 hb7))
  all_goals (go_wp2_with fail)
  all_goals
    rw [HRR.out, HE.out]
    have h7 : OwnE 30 ruC 3 w7 B (Sl.v ⟨A7, ys.length + 1, c7⟩) (ys ++ [⟨bk, ⟨A1, p1.length, c1⟩, ⟨A2, p2.length, c2⟩⟩]) := by
      have h := HN7.out
      have e : (ys ++ [(⟨bk, ⟨A1, p1.length, c1⟩, ⟨A2, p2.length, c2⟩⟩ : RuV)]).length = ys.length + 1 := by simp
      unfold OwnE Sl.v
      rw [e] at h ⊢
      exact h
    have h8 : (Sl.v ⟨A7, ys.length + 1, c7⟩).ownBlock = (Sl.v ⟨rA, ys.length, rc⟩).ownBlock ∨ (Sl.v ⟨A7, ys.length + 1, c7⟩).ownBlock = some (w5.drew.alloc (.cells (ruC ⟨bk, ⟨A1, p1.length, c1⟩, ⟨A2, p2.length, c2⟩⟩).toArray 30)).heap.size := by
      have h := HA7.out
      have e : (ys ++ [(⟨bk, ⟨A1, p1.length, c1⟩, ⟨A2, p2.length, c2⟩⟩ : RuV)]).length = ys.length + 1 := by simp
      rw [e] at h
      exact h
    exact ⟨_, _, rfl, rfl, fun _ => ⟨_, _, _, TS.rule HT6.out n hn gT cv rfl xs[n] hxg ⟨bk, p1, p2⟩ ⟨bk, ⟨A1, p1.length, c1⟩, ⟨A2, p2.length, c2⟩⟩ rfl HK6.out (rv' := ⟨A7, ys.length + 1, c7⟩) h7 HG7.out h8⟩, (HL7.out B w (Nat.le_refl _) HB6.out).setCell (p := ⟨gT, n * 3 + 2, none⟩) hBT _⟩

end Go.Proofs.YtpboaadjbkaidaaDoor

namespace Go.Proofs.YtpboaadjbkaidaaDoor
set_option maxRecDepth 100000
open Go.RowKit

theorem RS.but {eR : TypeId} {g B : Nat} {w w' : World} {v : Value} {rs : List Ru} {ys : List RuV} (h : RS eR [g] B w v rs ys) (hb : But g w w') : RS eR [g] B w' v rs ys :=
  h.keep hb.size fun b hlt hX => hb.block b hlt (fun e => hX (by rw [e]; exact List.mem_singleton.2 rfl))
theorem RS.alloc {eR : TypeId} {X : List Nat} {B : Nat} {w : World} {v : Value} {rs : List Ru} {ys : List RuV} (h : RS eR X B w v rs ys) (o : Obj) : RS eR X B (w.alloc o) v rs ys :=
  h.keep (by simp) fun b hlt _ => Below.heap_alloc w o b hlt
/-- A call that makes rules out of numbers. -/
def RulesRetM (L : List Int) (g : Nat) (r : List Ru × Nat) (w : World) (e : Ending) (w' : World) : Prop :=
  ∃ v, e = .returned v ∧ RdRu w' v r.1 ∧ But g w w' ∧ Nums w' g L r.2

set_option maxRecDepth 100000 in
set_option maxHeartbeats 4000000 in
theorem rulesM_any (L : List Int) (g N n : Nat) (w : World) (hnum : Nums w g L N) (hN : N ≤ 100000) (hn : n ≤ 100) :
    Calls Tryd.prog 64 #[.pointer (some ⟨g, 0, none⟩), .int .i64 n] w (RulesRetM L g (rulesM L N n) w) := by
  obtain ⟨R, HRR⟩ : ∃ R, Hid (R = RulesRetM L g (rulesM L N n) w) := ⟨_, rfl⟩
  rw [← HRR.out]
  obtain ⟨TT, HTT⟩ : ∃ TT, Hid (rulesGo L (nextN L N ((n : Int) + 1)).toNat (N + 1) [] = TT) := ⟨_, rfl⟩
  have HTR : Hid (R = RulesRetM L g TT w) := by
    show _ = _
    rw [HRR.out, ← HTT.out]
    rfl
  clear HRR
  have hg0 := hnum.lt
  have hz := nextN_bd L N (n + 1) (by omega)
  have HNU := Lib.hid hnum
  clear hnum
  go_enter Tryd.func64, Tryd.ntmps64
  go_upto_region 3 with (go_at_call 63; refine (next_any' L g N ((n : Int) + 1) _ (by exact HNU.out) (by omega) (by omega) (by omega)).mono ?_; rintro e w1 ⟨rfl, hb1, hn1⟩)
  generalize nextN L N ((n : Int) + 1) = z at hz hn1 HTT ⊢
  obtain ⟨z', rfl⟩ : ∃ z' : Nat, z = (z' : Int) := ⟨z.toNat, by omega⟩
  rw [Int.toNat_natCast] at HTT
  have HB1 := Lib.hid hb1
  have HN1 := Lib.hid hn1
  clear hb1 hn1 HNU
  go_loopg [5, 6] z' (fun m pv iv wr => ∃ (rs : List Ru) (ys : List RuV) (i M : Nat), iv = .int .i64 i ∧ Hid (RS 30 [g] w.heap.size wr pv rs ys) ∧ Hid (But g w wr) ∧ Hid (Nums wr g L M) ∧ rs.length + i ≤ n ∧ M + 43 * i ≤ N + 1 + 43 * n ∧ Hid (rulesGo L i M rs = TT) ∧ i ≤ m)
  case atStart => exact ⟨[], [], z', N + 1, rfl, RS.start (fun b hb => by rw [List.mem_singleton.1 hb]; exact hg0), HB1.out, HN1.out, by simp; omega, by omega, HTT.out, Nat.le_refl _⟩
  case round =>
    clear HB1 HN1 HTT
    obtain ⟨rs, ys, i, M, rfl, HO, HB, HNU, hpi, hM, HV, hgk⟩ := hrel
    by_cases hi0 : 0 < i
    · have hi0i : (0 : Int) < (i : Int) := by omega
      obtain ⟨A, cA, hpv⟩ := own_shape HO.out.own
      subst hpv
      have hlen := HO.out.len
      have hlen2 : ys.length + i ≤ n := by omega
      clear hlen
      have HV2 : Hid (rulesGo L (i - 1) (ruleN L M) (rs ++ [ruleM L M]) = TT) := by
        show _ = _
        rw [← HV.out]
        obtain ⟨i', rfl⟩ : ∃ i', i = i' + 1 := ⟨i - 1, by omega⟩
        rfl
      clear HV
      have hNN := ruleN_bd L M
      have HRU : Hid (ruleM L M = ⟨decide (0 < nextN L M 3), (atomsM L (M + 1) 2).1, (atomsM L (atomsM L (M + 1) 2).2 2).1⟩ ∧ ruleN L M = (atomsM L (atomsM L (M + 1) 2).2 2).2) := Lib.hid ⟨rfl, rfl⟩
      generalize ruleM L M = rm at HRU HV2
      generalize ruleN L M = rn at HRU HV2 hNN
      have hz1 := nextN_bd L M 3 (by decide)
      have HC1 := Lib.hid (fun w h => next_any' L g M 3 w h (by omega) (by decide) (by decide))
      have hba := atomsM_bd L (M + 1) 2 (by decide)
      have hM2 : (atomsM L (M + 1) 2).2 ≤ 1000000 := by
        have := hba.2.1
        have e : (2 : Int).toNat = 2 := rfl
        rw [e] at this
        omega
      have HC2 := Lib.hid (fun w h => atomsM_any L g (M + 1) 2 w h (by omega) (by decide))
      have HC3 := Lib.hid (fun w h => atomsM_any L g (atomsM L (M + 1) 2).2 2 w h hM2 (by decide))
      have hla := hba.1
      have hlb := (atomsM_bd L (atomsM L (M + 1) 2).2 2 (by decide)).1
      clear hba hM2
      change Hid (∀ w (h : Nums w g L (M + 1)), Calls _ _ _ w (AtomsRetM L g (atomsM L (M + 1) 2) w)) at HC2
      change Hid (∀ w (h : Nums w g L (atomsM L (M + 1) 2).2), Calls _ _ _ w (AtomsRetM L g (atomsM L (atomsM L (M + 1) 2).2 2) w)) at HC3
      generalize atomsM L (atomsM L (M + 1) 2).2 2 = s2 at HRU HC3 hlb
      generalize atomsM L (M + 1) 2 = s1 at HRU HC2 HC3 hla
      obtain ⟨p1, M1⟩ := s1
      obtain ⟨p2, M2⟩ := s2
      obtain ⟨rfl, hrn⟩ := HRU.out
      clear HRU
      simp only at hrn hla hlb HC3
      subst hrn
      generalize nextN L M 3 = z1 at hz1 HC1 HV2
      go_upto_region 4 with (first
        | (go_at_call 63; refine (HC1.out _ HNU.out).mono ?_; rintro e w2 ⟨rfl, hb2, hn2⟩)
        | (go_at_call 90; refine (HC2.out _ hn2).mono ?_; rintro e w3 ⟨v3, rfl, ho3, hb3, hn3⟩; obtain ⟨A3, c3, hv3⟩ := own_shape ho3; subst hv3)
        | (go_at_call 90; refine (HC3.out _ hn3).mono ?_; rintro e w4 ⟨v4, rfl, ho4, hb4, hn4⟩; obtain ⟨A4, c4, hv4⟩ := own_shape ho4; subst hv4; have HK5 := Lib.hid ((((HO.out.but hb2).but hb3).but hb4).alloc (.cells (ruC ⟨decide (0 < z1), ⟨A3, p1.length, c3⟩, ⟨A4, p2.length, c4⟩⟩).toArray 30)); have hws := hb4.size; have hbs := HB.out.size; have hw3 := hb3.size; have hw2 := hb2.size)
        | (refine wpList_appAt rfl (.tmp 15) (.tmp 24) 31 30 rfl Tryd.underlying31 _ ruC 3 56 rule_info rfl (by decide) ruC_len ruC_one w.heap.size (.slice A ys.length cA) ys rfl (HK5.out.own) (.slice (some ⟨w4.heap.size, 0, none⟩) 1 1) [⟨decide (0 < z1), ⟨A3, p1.length, c3⟩, ⟨A4, p2.length, c4⟩⟩] rfl (rdE_one_at ruC 3 ruC_len w4 _ rfl ⟨decide (0 < z1), ⟨A3, p1.length, c3⟩, ⟨A4, p2.length, c4⟩⟩ 30) (by simp only [List.length_singleton]; omega) (by decide) (by simp; omega) ?_; intro v7 w7 hown7 hbel7 hgr7 hat7))
      have HX : Hid (∀ b ∈ [g] ++ blkL (.slice A ys.length cA), b < wr.heap.size) := fun b hb => by
        rcases List.mem_append.1 hb with hb | hb
        · rw [List.mem_singleton.1 hb]; omega
        · exact (HO.out.own.lt b (mem_blkL.1 hb)).2
      have hk3 : Keep ([g] ++ blkL (.slice A ys.length cA)) w4 fun u => RdE atC 34 u (.slice A3 p1.length c3) p1 :=
        (OwnE.keepX atC_len ho3 (fun b hb => .inl (by have := HX.out b hb; omega))).step hb4.size fun b hlt hX => ⟨hb4.block b hlt (fun e => hX (by rw [e]; exact List.mem_append_left _ (List.mem_singleton.2 rfl))), hX⟩
      have hk4 : Keep ([g] ++ blkL (.slice A ys.length cA)) w4 fun u => RdE atC 34 u (.slice A4 p2.length c4) p2 :=
        OwnE.keepX atC_len ho4 (fun b hb => .inl (by have := HX.out b hb; omega))
      have hk5 := (hk3.and hk4).step (w' := w4.alloc (.cells (ruC ⟨decide (0 < z1), ⟨A3, p1.length, c3⟩, ⟨A4, p2.length, c4⟩⟩).toArray 30)) (by simp) (fun b hlt hX => ⟨Below.heap_alloc w4 _ b hlt, hX⟩)
      have HP7 : Hid (RS 30 [g] w.heap.size w7 v7 (rs ++ [⟨decide (0 < z1), p1, p2⟩]) (ys ++ [⟨decide (0 < z1), ⟨A3, p1.length, c3⟩, ⟨A4, p2.length, c4⟩⟩])) :=
        HK5.out.push (by simp; omega) ⟨decide (0 < z1), p1, p2⟩ ⟨decide (0 < z1), ⟨A3, p1.length, c3⟩, ⟨A4, p2.length, c4⟩⟩ rfl hk5 hown7 hgr7 hat7
      have hbn := hbel7 w.heap.size (w4.alloc (.cells (ruC ⟨decide (0 < z1), ⟨A3, p1.length, c3⟩, ⟨A4, p2.length, c4⟩⟩).toArray 30)) (Nat.le_refl _) (Below.refl _ _)
      have hbn2 := ((Below.refl w.heap.size w4).alloc (by omega) (.cells (ruC ⟨decide (0 < z1), ⟨A3, p1.length, c3⟩, ⟨A4, p2.length, c4⟩⟩).toArray 30)).trans hbn
      have HB7 : Hid (But g w w7) := (((HB.out.trans hb2).trans hb3).trans hb4).bel hbn2 (by omega)
      have HN7 : Hid (Nums w7 g L rn) := nums_keep hn4 hbn2 hg0
      obtain ⟨A7, c7, hv7⟩ := own_shape hown7
      subst hv7
      clear hown7 hbel7 hgr7 hat7 hbn hbn2 HK5 hk3 hk4 hk5 HX ho3 ho4 hb2 hb3 hb4 hn2 hn3 hn4 HB HNU HO HC1 HC2 HC3
      go_wp2_with fail
      go_roundg (i - 1)
      case measure => omega
      case rel => exact ⟨rs ++ [Ru.mk (decide (0 < z1)) p1 p2], ys ++ [RuV.mk (decide (0 < z1)) ⟨A3, p1.length, c3⟩ ⟨A4, p2.length, c4⟩], i - 1, rn, by (show Value.int .i64 _ = Value.int .i64 _); congr 1; omega, HP7.out, HB7.out, HN7.out, by simp; omega, by omega, HV2.out, by omega⟩
    · obtain rfl : i = 0 := by omega
      go_wp2_with fail
      have e : TT = (rs, M) := HV.out.symm
      rw [HTR.out, e]
      exact ⟨_, rfl, HO.out.rd, HB.out, HNU.out⟩

def RetRules (w : World) (rs : List Ru) (e : Ending) (w' : World) : Prop := ∃ v, e = .returned v ∧ RdRu w' v rs ∧ Below w.heap.size w w'

set_option maxRecDepth 100000 in
set_option maxHeartbeats 4000000 in
theorem rules6_any (A : Option Addr) (c : Nat) (l : List Int) (w : World) (h : RdE intC 1 w (.slice A l.length c) l) (hin : ∀ x ∈ l, IntIn x) :
    Calls Tryd.prog 27 #[.slice A l.length c] w (RetRules w (rulesM l 0 5).1) := by
  obtain ⟨R, HRR⟩ : ∃ R, Hid (R = RetRules w (rulesM l 0 5).1) := ⟨_, rfl⟩
  rw [← HRR.out]
  have hN : Nums (w.alloc (.cells #[.slice A l.length c, .int .i64 0] 62)) w.heap.size l 0 :=
    ⟨_, w, Array.getElem?_push_size, h, Nat.le_refl _, fun k hk => Below.heap_alloc _ _ _ hk, hin⟩
  have HF := Lib.hid (rulesM_any l w.heap.size 0 5 _ hN (by decide) (by decide))
  clear hN h hin
  go_enter Tryd.func27, Tryd.ntmps27
  go_wp2_with (go_at_call 64; refine HF.out.mono ?_; rintro e w1 ⟨v, rfl, hown, hb, _⟩)
  rw [HRR.out]
  exact ⟨v, rfl, hown, ((Below.refl w.heap.size w).alloc (Nat.le_refl _) _).trans (hb.below (Nat.le_refl _) (by simp))⟩

end Go.Proofs.YtpboaadjbkaidaaDoor

namespace Go.Proofs.YtpboaadjbkaidaaDoor
set_option maxRecDepth 100000
open Go.RowKit

theorem got_lt {w : World} {m : Int} (h : w.cell? ⟨0, 0, none⟩ = some (.int .i64 m)) : 0 < w.heap.size := by
  unfold World.cell? at h
  split at h
  · rename_i hh
    exact (Array.getElem?_eq_some_iff.1 hh).1
  · cases h
theorem wordsL_len (l : List UInt8) : ∀ w ∈ wordsL l, w.length ≤ l.length := by
  have : ∀ (l cur : List UInt8), ∀ w ∈ wordsA cur l, w.length ≤ cur.length + l.length := by
    intro l
    induction l with
    | nil =>
      intro cur w hw
      rw [wordsA] at hw
      split at hw
      · simp at hw
      · simp at hw; subst hw; simp
    | cons b l ih =>
      intro cur w hw
      rw [wordsA] at hw
      split at hw
      · rcases List.mem_append.1 hw with hw | hw
        · split at hw
          · simp at hw
          · simp at hw; subst hw; simp
        · have := ih [] w hw
          simp at this ⊢
          omega
      · have := ih _ w hw
        simp at this ⊢
        omega
  intro w hw
  have := this l [] w hw
  simpa using this
theorem line_len (ts : List Tb) (w : List (List UInt8)) (h : (lineF ts w).2 = 0) (hl : ts.length ≤ 16) : (lineF ts w).1.length ≤ 16 := by
  unfold lineF at h ⊢
  split at h
  · rename_i h1
    rw [if_pos h1]
    unfold tableF at h ⊢
    split at h
    · exact absurd h (by decide)
    · rename_i h2
      rw [if_neg h2]
      split at h
      · exact absurd h (by decide)
      · rename_i h3
        rw [if_neg h3]
        split at h
        · exact absurd h (by decide)
        · rename_i h4
          rw [if_neg h4]
          split at h
          · exact absurd h (by decide)
          · rename_i h5
            rw [if_neg h5]
            simp
            omega
  · rename_i h1
    rw [if_neg h1]
    split at h
    · rename_i h2
      rw [if_pos h2]
      unfold ruleF at h ⊢
      split at h
      · exact absurd h (by decide)
      · rename_i h3
        rw [if_neg h3]
        split at h
        · exact absurd h (by decide)
        · rename_i h4
          rw [if_neg h4]
          split at h
          · rename_i h5; exact absurd h h5
          · rename_i h5
            rw [if_neg h5]
            split at h
            · rename_i h6; exact absurd h h6
            · rename_i h6
              rw [if_neg h6]
              split at h
              · exact absurd h (by decide)
              · rename_i h7
                rw [if_neg h7, addLast_len]
                exact hl
    · exact absurd h (by decide)
/-- What a call gives that reads a rule file. -/
def RetTbs (w : World) (r : List Tb × Nat × Int) (e : Ending) (w' : World) : Prop := ∃ v, e = .returned (.tuple #[v, .int .i64 (r.2.1 : Nat), .int .i64 r.2.2]) ∧ RdTb w' v r.1 ∧ Below w.heap.size w w'

set_option maxRecDepth 100000 in
set_option maxHeartbeats 8000000 in
theorem addLine_any (B : Nat) (w : World) (v wv : Value) (ts : List Tb) (xs : List TbV) (rv : Sl) (ys : List RuV) (ws : List ByteArray) (ht : TS 46 30 B w v ts xs rv ys) (hw : RdE strC 1 w wv ws) (hB : B ≤ w.heap.size) (hl : ts.length ≤ 16) (hws : ∀ s ∈ ws, s.size ≤ 2147483648) (h0 : ws ≠ []) :
    Calls Tryd.prog 54 #[v, wv] w (RetTab B w (lineF ts (ws.map fun s => s.data.toList))) := by
  obtain ⟨R, HRR⟩ : ∃ R, Hid (R = RetTab B w (lineF ts (ws.map fun s => s.data.toList))) := ⟨_, rfl⟩
  rw [← HRR.out]
  have HTB := Lib.hid (addTable_any B w v wv ts xs rv ys ws ht hw hB hl hws)
  have HRU := Lib.hid (addRule_any B w v wv ts xs rv ys ws ht hw hB hl hws)
  obtain ⟨Av, cv, rfl⟩ := ht.rd.shape
  obtain ⟨Aw, cw, rfl, hlw, _⟩ := hw.shape
  obtain ⟨a, ws2, rfl⟩ : ∃ a ws2, ws = a :: ws2 := by
    match ws, h0 with
    | a :: l, _ => exact ⟨a, l, rfl⟩
  obtain ⟨bb, o, rfl, hbl, hcell⟩ := hw.cells (by simp)
  have q0 := hcell 0 a 0 (.string a) rfl rfl
  rw [show o + (0 * 1 + 0) = o by omega] at q0
  have hlp : (0 : Int) < ((a :: ws2).length : Int) := by (simp <;> omega)
  clear hcell ht hw h0 hws
  have e : lineF ts ((a :: ws2).map fun s => s.data.toList) = if a.data.toList = wTable then tableF ts ((a :: ws2).map fun s => s.data.toList) else if a.data.toList = wBreak ∨ a.data.toList = wKeep then ruleF ts ((a :: ws2).map fun s => s.data.toList) else ([], 2) := rfl
  generalize lineF ts ((a :: ws2).map fun s => s.data.toList) = rr at e HRR
  generalize tableF ts ((a :: ws2).map fun s => s.data.toList) = r1 at e HTB
  generalize ruleF ts ((a :: ws2).map fun s => s.data.toList) = r2 at e HRU
  generalize (a :: ws2).length = nw at hlp HTB HRU hlw ⊢
  unfold RetTab at HTB HRU
  by_cases ht1 : a.data.toList = wTable
  · have t1 : (a.toList == [116, 97, 98, 108, 101]) = true := by rw [toList_eq_data, ht1]; rfl
    have e0 : rr = r1 := by rw [e, if_pos ht1]
    clear e ht1
    go_enter Tryd.func54, Tryd.ntmps54
    go_wp2_with (go_at_call 87; refine HTB.out.mono ?_; rintro e w2 ⟨v2, x2, rfl, hx2, ht2, hb2⟩; subst hx2)
    rw [HRR.out, e0]
    exact ⟨v2, _, rfl, rfl, ht2, hb2⟩
  have t1 : (a.toList == [116, 97, 98, 108, 101]) = false := by rw [toList_eq_data]; exact beq_eq_false_iff_ne.2 ht1
  by_cases ht2 : a.data.toList = wBreak
  · have t2 : (a.toList == [98, 114, 101, 97, 107]) = true := by rw [toList_eq_data, ht2]; rfl
    have e0 : rr = r2 := by rw [e, if_neg ht1, if_pos (.inl ht2)]
    clear e ht1 ht2
    go_enter Tryd.func54, Tryd.ntmps54
    go_wp2_with (go_at_call 88; refine HRU.out.mono ?_; rintro e w2 ⟨v2, x2, rfl, hx2, ht2, hb2⟩; subst hx2)
    rw [HRR.out, e0]
    exact ⟨v2, _, rfl, rfl, ht2, hb2⟩
  have t2 : (a.toList == [98, 114, 101, 97, 107]) = false := by rw [toList_eq_data]; exact beq_eq_false_iff_ne.2 ht2
  by_cases ht3 : a.data.toList = wKeep
  · have t3 : (a.toList == [107, 101, 101, 112]) = true := by rw [toList_eq_data, ht3]; rfl
    have e0 : rr = r2 := by rw [e, if_neg ht1, if_pos (.inr ht3)]
    clear e ht1 ht2 ht3
    go_enter Tryd.func54, Tryd.ntmps54
    go_wp2_with (go_at_call 88; refine HRU.out.mono ?_; rintro e w2 ⟨v2, x2, rfl, hx2, ht2, hb2⟩; subst hx2)
    rw [HRR.out, e0]
    exact ⟨v2, _, rfl, rfl, ht2, hb2⟩
  have t3 : (a.toList == [107, 101, 101, 112]) = false := by rw [toList_eq_data]; exact beq_eq_false_iff_ne.2 ht3
  have e0 : rr = ([], 2) := by rw [e, if_neg ht1, if_neg (by rintro (h | h); exact ht2 h; exact ht3 h)]
  clear e ht1 ht2 ht3
  go_enter Tryd.func54, Tryd.ntmps54
  go_wp2_with fail
  rw [HRR.out, e0]
  exact ⟨_, _, rfl, rfl, fun h => absurd h (by decide), Below.refl _ _⟩

set_option maxRecDepth 100000 in
set_option maxHeartbeats 8000000 in
theorem segParse_any (s : ByteArray) (w : World) (hg : Got w) : Calls Tryd.prog 20 #[.string s] w (RetTbs w (rulesF s)) := by
  obtain ⟨R, HRR⟩ : ∃ R, Hid (R = RetTbs w (rulesF s)) := ⟨_, rfl⟩
  rw [← HRR.out]
  by_cases h16 : 65536 < s.size
  · have h16i : (65536 : Int) < (s.size : Int) := by omega
    have e0 : rulesF s = ([], 0, 3) := by unfold rulesF; rw [if_pos h16]
    go_enter Tryd.func20, Tryd.ntmps20
    go_wp2_with fail
    go_ret3
    rw [HRR.out, e0]
    exact ⟨_, rfl, RdTb.nil, Below.refl _ _⟩
  have h16i : ¬ (65536 : Int) < (s.size : Int) := by omega
  obtain ⟨r, hr⟩ : ∃ r, rulesF s = r := ⟨_, rfl⟩
  have HR0 : Hid (linesF (linesL s.data.toList) 0 [] = r) := by show _ = _; rw [← hr]; unfold rulesF; rw [if_neg h16]
  have hsl : s.data.toList.length ≤ 65536 := by rw [← Lib.size_eq]; omega
  rw [hr] at HRR
  clear hr h16
  go_enter Tryd.func20, Tryd.ntmps20
  go_wp2_with fail
  obtain ⟨wo, HWO⟩ : ∃ wo, Hid (wo = w) := ⟨w, rfl⟩
  go_loopg [0, 2, 3, 4] s.data.toList.length (fun gk tv v kv ev wr => ∃ (t : ByteArray) (v' : Value) (k : Nat) (ts : List Tb) (xs : List TbV) (rv : Sl) (ys : List RuV), tv = .string t ∧ v = v' ∧ kv = .int .i64 (k : Nat) ∧ ev = .int .i64 0 ∧ Hid (TS 46 30 w.heap.size wr v' ts xs rv ys) ∧ Hid (Below w.heap.size w wr) ∧ Hid (linesF (linesL t.data.toList) k ts = r) ∧ ts.length ≤ 16 ∧ t.data.toList.length + k ≤ 65536 ∧ t.data.toList.length ≤ gk)
  case atStart => exact ⟨s, _, 0, [], [], ⟨none, 0, 0⟩, [], rfl, rfl, rfl, rfl, TS.start, Below.refl _ _, HR0.out, by simp, by omega, Nat.le_refl _⟩
  case round =>
    clear HR0 hsl
    obtain ⟨t, v, k, ts, xs, rv, ys, rfl, rfl, rfl, rfl, HT, HB, HR, hl16, htl, hgk⟩ := hrel
    obtain ⟨Av, cv, hv⟩ := HT.out.rd.shape
    subst hv
    by_cases he : t.data.toList = []
    · have t1 : (t.toList != []) = false := by rw [toList_eq_data, he]; rfl
      have t2 : t.toList.isEmpty = true := by rw [toList_eq_data, he]; rfl
      have e0 : r = (ts, 0, 0) := by rw [← HR.out, he]; rfl
      clear he HR
      go_wp2_with fail
      go_ret3
      rw [HRR.out, e0]
      exact ⟨_, rfl, HT.out.rd, HB.out⟩
    have t1 : (t.toList != []) = true := by rw [toList_eq_data]; exact bne_iff_ne.2 he
    have t2 : t.toList.isEmpty = false := by rw [toList_eq_data]; exact List.isEmpty_eq_false_iff.2 he
    obtain ⟨m, hm⟩ := hg
    have hm2 : wr.cell? ⟨0, 0, none⟩ = some (.int .i64 m) := (HB.out.cell (p := ⟨0, 0, none⟩) (got_lt hm)).trans hm
    have hts : t.size ≤ 65536 := by rw [Lib.size_eq]; omega
    have HC := Lib.hid (Tryd.strings_Cut t ⟨#[10]⟩ m wr (by omega) hm2)
    have hcl := cut_lines t.data.toList he
    have hcn := cut_len t.data.toList he
    have hcf := cut_fst t.data.toList
    rw [show (⟨#[10]⟩ : ByteArray).data.toList = [10] from rfl] at HC
    have HR1 : Hid (linesF (linesL t.data.toList) k ts = r) := HR.out
    rw [hcl] at HR1
    generalize Lib.cut t.data.toList [10] = cc at HC hcn hcf HR1
    clear hcl HR
    obtain ⟨c1, c2, c3⟩ := cc
    simp only at HC hcn hcf HR1
    go_upto_region 7 with (go_at_call 52; refine HC.out.mono ?_; rintro e w1 ⟨rfl, n1, rfl⟩)
    have HT1 := Lib.hid (HT.out.keep (w' := wr.drewN n1) (Nat.le_refl _) (fun b _ => rfl))
    have HB1 : Hid (Below w.heap.size w (wr.drewN n1)) := below_drewN HB.out n1
    clear HT HB HC hm2
    generalize wr.drewN n1 = w1 at HT1 HB1 ⊢
    change Hid (linesF (c1 :: linesL c2) k ts = r) at HR1
    have hm3 : Got w1 := ⟨m, (HB1.out.cell (p := ⟨0, 0, none⟩) (got_lt hm)).trans hm⟩
    have hofl : ∀ l : List UInt8, (⟨l.toArray⟩ : ByteArray) = ofL l := fun _ => rfl
    rw [hofl c1, hofl c2]
    have hcs : (ofL c1).size ≤ 65536 := by rw [Lib.size_eq, ofL_list]; omega
    have HW := Lib.hid (words_any (ofL c1) w1 (by omega) hm3)
    have hwd : wordsL (ofL c1).data.toList = wordsL c1 := by rw [ofL_list]
    have hwm : (wordsB (ofL c1)).map (fun s => s.data.toList) = wordsL c1 := by
      unfold wordsB
      rw [hwd, List.map_map]
      exact (List.map_congr_left fun x _ => ofL_list x).trans (List.map_id _)
    have hwb : ∀ x ∈ wordsB (ofL c1), x.size ≤ 65536 := fun x hx => by
      have h1 : x.data.toList ∈ wordsL c1 := by rw [← hwm]; exact List.mem_map_of_mem hx
      have := wordsL_len c1 _ h1
      rw [Lib.size_eq]; omega
    have hwn : ∀ x ∈ wordsB (ofL c1), x.data.toList ≠ [] := fun x hx => wordsL_ne c1 _ (by rw [← hwm]; exact List.mem_map_of_mem hx)
    unfold RetWords at HW
    generalize wordsB (ofL c1) = ws at HW hwm hwb hwn
    clear hwd hm hm3
    go_wp2_with fail
    refine HW.out.mono ?_
    rintro e w2 ⟨wv, rfl, ho2, hb2⟩
    go_upto_region 8 with fail
    have HT2 := Lib.hid (HT1.out.below hb2 (Nat.le_refl _))
    have HB2 := Lib.hid (HB1.out.trans (hb2.mono HB1.out.size))
    have HRW := Lib.hid (OwnE.rd (f := strC) (m := 1) (fun _ => rfl) ho2)
    obtain ⟨Aw, cw, hwv⟩ := own_shape ho2
    subst hwv
    clear ho2 hb2 HT1 HB1 HW
    have HRL : Hid (r = if idle (wordsL c1) = true then linesF (linesL c2) (k + 1) ts else if (lineF ts (wordsL c1)).2 ≠ 0 then ([], k + 1, (lineF ts (wordsL c1)).2) else linesF (linesL c2) (k + 1) (lineF ts (wordsL c1)).1) := HR1.out.symm
    rw [← hwm] at HRL
    clear HR1 hwm
    rcases ws with _ | ⟨a, ws2⟩
    · have e1 : linesF (linesL c2) (k + 1) ts = r := (HRL.out.trans (if_pos rfl)).symm
      go_wp2_with fail
      go_roundg c2.length
      case measure => omega
      case rel => exact ⟨ofL c2, _, k + 1, ts, xs, rv, ys, rfl, rfl, by go_num, rfl, HT2.out, HB2.out, by (show linesF _ _ _ = _); rw [ofL_list]; exact e1, hl16, by rw [ofL_list]; omega, by rw [ofL_list]; exact Nat.le_refl _⟩
    · obtain ⟨bb, o, rfl, hbl, hcell⟩ := HRW.out.cells (by simp)
      have q0 := hcell 0 a 0 (.string a) rfl rfl
      rw [show o + (0 * 1 + 0) = o by omega] at q0
      clear hcell
      have ha := hwn a (by simp)
      have ha0 : 0 < a.size := by rw [Lib.size_eq]; exact List.length_pos_iff.2 ha
      have ha0i : (0 : Int) < (a.size : Int) := by omega
      have hid : idle ((a :: ws2).map fun s => s.data.toList) = (a[0].toNat == 35) := by
        show (a.data.toList.head? == some 35) = _
        have e1 : a.data.toList.head? = some a[0] := by
          rw [List.head?_eq_getElem?, List.getElem?_eq_getElem (by rw [← Lib.size_eq]; exact ha0)]
          rfl
        rw [e1, Bool.eq_iff_iff]
        simp [← UInt8.toNat_inj]
      have hlen := line_len ts ((a :: ws2).map fun s => s.data.toList)
      have HAD := Lib.hid (addLine_any w.heap.size w2 _ _ ts xs rv ys (a :: ws2) HT2.out HRW.out HB2.out.size hl16 (fun x hx => Nat.le_trans (hwb x hx) (by decide)) (by simp))
      unfold RetTab at HAD
      rw [hid] at HRL
      generalize lineF ts ((a :: ws2).map fun s => s.data.toList) = lr at HAD HRL hlen
      have hnw : (1 : Nat) ≤ (a :: ws2).length := by simp
      clear hid ha hwb hwn HRW
      generalize (a :: ws2).length = nw at HAD hnw ⊢
      have hnwi : ((nw : Int) == 0) = false := beq_eq_false_iff_ne.2 (by omega)
      have hnwj : (0 : Int) < (nw : Int) := by omega
      by_cases h35 : a[0].toNat = 35
      · have t35 : (((a[0].toNat : Nat) : Int) == 35) = true := by rw [h35]; rfl
        have e1 : linesF (linesL c2) (k + 1) ts = r := (HRL.out.trans (if_pos (by rw [h35]; rfl))).symm
        clear h35 HAD HRL
        go_wp2_with fail
        go_roundg c2.length
        case measure => omega
        case rel => exact ⟨ofL c2, _, k + 1, ts, xs, rv, ys, rfl, rfl, by go_num, rfl, HT2.out, HB2.out, by (show linesF _ _ _ = _); rw [ofL_list]; exact e1, hl16, by rw [ofL_list]; omega, by rw [ofL_list]; exact Nat.le_refl _⟩
      · have t35 : (((a[0].toNat : Nat) : Int) == 35) = false := beq_eq_false_iff_ne.2 (by omega)
        rw [beq_eq_false_iff_ne.2 h35, if_neg Bool.false_ne_true] at HRL
        clear h35
        obtain ⟨l1, x1⟩ := lr
        simp only at HAD HRL hlen
        by_cases hx : x1 = 0
        · have e1 : linesF (linesL c2) (k + 1) l1 = r := by rw [HRL.out, if_neg (not_not_intro hx)]
          have tx : (x1 != 0) = false := by simpa using hx
          clear HRL
          go_wp2_with (go_at_call 54; refine HAD.out.mono ?_; rintro e w3 ⟨v3, x3, rfl, hx3, ht3, hb3⟩; subst hx3)
          obtain ⟨xs3, rv3, ys3, HT3⟩ := ht3 hx
          go_roundg c2.length
          case measure => omega
          case rel => exact ⟨ofL c2, v3, k + 1, l1, xs3, rv3, ys3, rfl, rfl, by go_num, by first | rfl | (rw [hx]), HT3, HB2.out.trans hb3, by (show linesF _ _ _ = _); rw [ofL_list]; exact e1, hlen hx hl16, by rw [ofL_list]; omega, by rw [ofL_list]; exact Nat.le_refl _⟩
        · have e1 : r = ([], k + 1, x1) := by rw [HRL.out, if_pos hx]
          have tx : (x1 != 0) = true := bne_iff_ne.2 hx
          clear HRL
          go_wp2_with (go_at_call 54; refine HAD.out.mono ?_; rintro e w3 ⟨v3, x3, rfl, hx3, ht3, hb3⟩; subst hx3)
          go_ret3
          rw [HRR.out, e1]
          exact ⟨_, rfl, RdTb.nil, HB2.out.trans hb3⟩

end Go.Proofs.YtpboaadjbkaidaaDoor

namespace Go.Proofs.YtpboaadjbkaidaaDoor
set_option maxRecDepth 100000
open Go.RowKit

theorem known_small : ((rulesF knownT).1.all fun t => decide (t.rs.length ≤ 40) && t.rs.all fun r => decide (r.bf.length ≤ 40) && decide (r.af.length ≤ 40)) = true := by decide +kernel
theorem known_shape : ∃ T : Tb, rulesF knownT = ([T], 0, 0) ∧ breaksF T.rs knownS = [11] ∧ T.rs.length ≤ 1000000 ∧ ∀ r ∈ T.rs, r.bf.length ≤ 1000000 ∧ r.af.length ≤ 1000000 := by
  have h1 := known_len
  have h2 := known_breaks
  have h3 := known_small
  generalize rulesF knownT = k at h1 h2 h3
  obtain ⟨l, n, x⟩ := k
  obtain ⟨h4, h5, h6⟩ := h1
  obtain ⟨T, rfl⟩ : ∃ T, l = [T] := List.length_eq_one_iff.1 h4
  have h7 : (decide (T.rs.length ≤ 40) && T.rs.all fun r => decide (r.bf.length ≤ 40) && decide (r.af.length ≤ 40)) = true := by
    have := List.all_eq_true.1 h3 T (by simp)
    exact this
  rw [Bool.and_eq_true] at h7
  refine ⟨T, by rw [show n = 0 from h5, show x = 0 from h6], h2, ?_, fun r hr => ?_⟩
  · have := of_decide_eq_true h7.1
    omega
  · have := List.all_eq_true.1 h7.2 r hr
    rw [Bool.and_eq_true] at this
    have h8 := of_decide_eq_true this.1
    have h9 := of_decide_eq_true this.2
    omega

set_option maxRecDepth 100000 in
set_option maxHeartbeats 4000000 in
theorem known6_any (w : World) (hg : Got w) : Calls Tryd.prog 17 #[] w fun e w' => e = .returned (.bool true) ∧ Below w.heap.size w w' := by
  have HP := Lib.hid (segParse_any knownT w hg)
  obtain ⟨T, hT, hbr, hrl, hal⟩ := known_shape
  rw [hT] at HP
  unfold RetTbs at HP
  go_enter Tryd.func17, Tryd.ntmps17
  go_upto_region 2 with (go_at_call 20; refine HP.out.mono ?_; rintro e w1 ⟨v1, rfl, hr1, hb1⟩)
  obtain ⟨xs, hx0, hxl, hx⟩ := hr1
  obtain ⟨A, c, hv, hlc, _⟩ := hx0.shape
  have hxl1 : xs.length = 1 := hxl
  rw [hxl1] at hv
  subst hv
  obtain ⟨x, rfl⟩ : ∃ x, xs = [x] := List.length_eq_one_iff.1 hxl1
  obtain ⟨b, o, rfl, hbl, hcell⟩ := hx0.cells (by simp)
  have q2 := hcell 0 x 2 x.r.v rfl rfl
  rw [show o + (0 * 3 + 2) = o + 2 by omega] at q2
  have HRU := Lib.hid (hx 0 x T rfl rfl).2.2
  obtain ⟨nm, pa, ⟨rA, rn, rc⟩⟩ := x
  change w1.cell? _ = some (.slice rA rn rc) at q2
  change Hid (RdRu w1 (.slice rA rn rc) T.rs) at HRU
  have HB1 := Lib.hid hb1
  have HBR := Lib.hid (breaks_any T.rs (.slice rA rn rc) knownS w1 HRU.out hrl hal)
  rw [hbr] at HBR
  unfold RetOwn at HBR
  clear hcell hx hx0 hxl hxl1 hb1 HP hT hbr hrl hal HRU
  go_upto_region 5 with (go_at_call 16; refine HBR.out.mono ?_; rintro e w2 ⟨v2, rfl, ho2, hb2⟩)
  have HR2 := OwnE.rd (f := intC) (m := 1) (fun _ => rfl) ho2
  obtain ⟨A2, c2, hv2⟩ := own_shape ho2
  subst hv2
  obtain ⟨b2, o2, rfl, hbl2, hcell2⟩ := HR2.cells (by simp)
  have q3 := hcell2 0 11 0 (.int .i64 11) rfl rfl
  rw [show o2 + (0 * 1 + 0) = o2 by omega] at q3
  have HBF := Lib.hid (HB1.out.trans (hb2.mono HB1.out.size))
  clear hcell2 HR2 ho2 hb2 HBR
  go_wp2_with fail
  go_ret
  exact ⟨rfl, HBF.out⟩

end Go.Proofs.YtpboaadjbkaidaaDoor

namespace Go.Proofs.YtpboaadjbkaidaaDoor
set_option maxRecDepth 100000
open Go.RowKit

theorem got_below {w w' : World} (hg : Got w) (hb : Below w.heap.size w w') : Got w' := by
  obtain ⟨m, hm⟩ := hg
  exact ⟨m, (hb.cell (p := ⟨0, 0, none⟩) (got_lt hm)).trans hm⟩
theorem rulesM_small (L : List Int) : RuSmall (rulesM L 0 5).1 := by
  have h := rulesM_bd L 0 5 (by decide)
  refine ⟨Nat.le_trans h.1 (by decide), fun r hr => ?_⟩
  have := h.2.2 r hr
  exact ⟨Nat.le_trans this.1 (by decide), Nat.le_trans this.2.1 (by decide)⟩

end Go.Proofs.YtpboaadjbkaidaaDoor

namespace Go.Proofs.YtpboaadjbkaidaaDoor
set_option maxRecDepth 100000
open Go.RowKit

set_option maxHeartbeats 1000000 in
theorem line_any' (L : List Int) (g N : Nat) (n : Int) (w : World) (h : Nums w g L N) (hN : N ≤ 100000000) (hn : 0 ≤ n) (hn2 : n ≤ 1000) :
    Calls Tryd.prog 69 #[.pointer (some ⟨g, 0, none⟩), .int .i64 n] w (NumRet g L (lineL L N n).2 (.string (lineL L N n).1) w) := by
  have HT : Hid (lineGo L (nextN L N (n + 1)).toNat ⟨#[]⟩ (N + 1) = lineL L N n) := by show lineGo L (nextN L N (n + 1)).toNat ⟨#[]⟩ (N + 1) = lineL L N n; rfl
  have hb := nextN_bd L N (n + 1) (by omega)
  have HNX := Lib.hid (next_any' L g N (n + 1) w h (by omega) (by omega) (by omega))
  generalize nextN L N (n + 1) = z at HT hb HNX
  generalize lineL L N n = tgt at HT
  obtain ⟨m, rfl⟩ : ∃ m : Nat, z = (m : Int) := ⟨z.toNat, by omega⟩
  rw [Int.toNat_natCast] at HT
  clear h
  go_enter Tryd.func69, Tryd.ntmps69
  go_wp2_with fail
  refine (HNX.out).mono ?_
  rintro e w1 ⟨rfl, hb1, hn1⟩
  have HB1 := Lib.hid hb1
  have HN1 := Lib.hid hn1
  clear hb1 hn1
  go_wp2_with fail
  go_loopw [5, 6] (fun ov iv wr => ∃ (out : ByteArray) (i N' : Nat), ov = .string out ∧ iv = .int .i64 i ∧ i ≤ m ∧ N' + 2 * i ≤ N + 1 + 2 * m ∧ out.size + 6 * i ≤ 6 * m ∧ Hid (But g w wr) ∧ Hid (Nums wr g L N') ∧ Hid (lineGo L i out N' = tgt)) (fun _ iv _ => (intOf iv).toNat)
  case atStart => exact ⟨⟨#[]⟩, m, N + 1, rfl, rfl, Nat.le_refl _, Nat.le_refl _, by show 0 + 6 * m ≤ _; omega, HB1.out, HN1.out, HT.out⟩
  case round =>
    obtain ⟨out, i, N', rfl, rfl, him, hN', hos, HB, HN, HG⟩ := hrel
    cases i with
    | zero =>
      have he := HG.out
      rw [lineGo] at he
      subst he
      go_wp2_with fail
      go_ret
      exact ⟨rfl, HB.out, HN.out⟩
    | succ i =>
      have hw : (mkWord L N').size ≤ 5 := words_size _
      by_cases ho : 0 < out.size
      · have h3 := nextN_bd L (N' + 1) 3 (by omega)
        have hne : (out.toList == []) = false := by
          rw [beq_eq_false_iff_ne, toList_eq_data]
          intro h
          have := Lib.size_eq out
          rw [h] at this
          simp only [List.length_nil] at this
          omega
        have hne2 : out.toList.isEmpty = false := by
          rw [List.isEmpty_eq_false_iff]
          simpa using hne
        have hsz1 : (out ++ ⟨#[32]⟩ ++ mkWord L N').size ≤ out.size + 6 := by
          rw [ByteArray.size_append, ByteArray.size_append]
          show out.size + 1 + (mkWord L N').size ≤ _
          omega
        have hsz2 : (out ++ mkWord L N').size ≤ out.size + 6 := by
          rw [ByteArray.size_append]
          omega
        have HWD := Lib.hid (word_any' L g N' wr HN.out (by omega))
        by_cases hz : 0 < nextN L (N' + 1) 3
        · have hG2 : Hid (lineGo L i (out ++ ⟨#[32]⟩ ++ mkWord L N') (N' + 2) = tgt) := by
            have := HG.out
            rw [lineGo, if_pos ho, if_pos hz] at this
            exact this
          generalize mkWord L N' = wd at hw hsz1 hsz2 HWD hG2
          have HNX3 := fun w h => next_any' L g (N' + 1) 3 w h (by omega) (by omega) (by omega)
          have HX3 := Lib.hid HNX3
          generalize nextN L (N' + 1) 3 = z3 at h3 hz HX3 HNX3
          clear HNX3
          go_wp2_with fail
          refine (HWD.out).mono ?_
          rintro e w2 ⟨rfl, hb2, hn2'⟩
          have HB2 := Lib.hid (HB.out.trans hb2)
          have HN2 := Lib.hid hn2'
          clear hb2 hn2'
          go_wp2_with fail
          refine (HX3.out w2 HN2.out).mono ?_
          rintro e w3 ⟨rfl, hb3, hn3⟩
          have HB3 := Lib.hid (HB2.out.trans hb3)
          have HN3 := Lib.hid hn3
          clear hb3 hn3
          go_wp2_with fail
          exact ⟨⟨_, i, N' + 2, rfl, by go_num, by omega, by omega, by omega, HB3.out, HN3.out, hG2.out⟩, by simp [intOf]; try omega⟩
        · have hG2 : Hid (lineGo L i (out ++ mkWord L N') (N' + 2) = tgt) := by
            have := HG.out
            rw [lineGo, if_pos ho, if_neg hz] at this
            exact this
          generalize mkWord L N' = wd at hw hsz1 hsz2 HWD hG2
          have HNX3 := fun w h => next_any' L g (N' + 1) 3 w h (by omega) (by omega) (by omega)
          have HX3 := Lib.hid HNX3
          generalize nextN L (N' + 1) 3 = z3 at h3 hz HX3 HNX3
          clear HNX3
          go_wp2_with fail
          refine (HWD.out).mono ?_
          rintro e w2 ⟨rfl, hb2, hn2'⟩
          have HB2 := Lib.hid (HB.out.trans hb2)
          have HN2 := Lib.hid hn2'
          clear hb2 hn2'
          go_wp2_with fail
          refine (HX3.out w2 HN2.out).mono ?_
          rintro e w3 ⟨rfl, hb3, hn3⟩
          have HB3 := Lib.hid (HB2.out.trans hb3)
          have HN3 := Lib.hid hn3
          clear hb3 hn3
          go_wp2_with fail
          exact ⟨⟨_, i, N' + 2, rfl, by go_num, by omega, by omega, by omega, HB3.out, HN3.out, hG2.out⟩, by simp [intOf]; try omega⟩
      · have hz : out.data.toList = [] := List.eq_nil_of_length_eq_zero (by rw [← Lib.size_eq]; omega)
        have hre : out = ⟨#[]⟩ := bytes_ext hz
        subst hre
        have hG2 : Hid (lineGo L i (⟨#[]⟩ ++ mkWord L N') (N' + 1) = tgt) := by
          have := HG.out
          rw [lineGo, if_neg ho] at this
          exact this
        have hsz2 : ((⟨#[]⟩ : ByteArray) ++ mkWord L N').size ≤ 6 := by
          rw [ByteArray.size_append]
          show 0 + _ ≤ 6
          omega
        have HWD := Lib.hid (word_any' L g N' wr HN.out (by omega))
        have hos' : 6 * (i + 1) ≤ 6 * m := by have : (ByteArray.mk #[]).size = 0 := rfl; omega
        generalize mkWord L N' = wd at hw hsz2 HWD hG2
        go_wp2_with fail
        refine (HWD.out).mono ?_
        rintro e w2 ⟨rfl, hb2, hn2'⟩
        have HB2 := Lib.hid (HB.out.trans hb2)
        have HN2 := Lib.hid hn2'
        clear hb2 hn2'
        go_wp2_with fail
        exact ⟨⟨_, i, N' + 1, rfl, by go_num, by omega, by omega, by omega, HB2.out, HN2.out, hG2.out⟩, by simp [intOf]; try omega⟩

end Go.Proofs.YtpboaadjbkaidaaDoor

namespace Go.Proofs.YtpboaadjbkaidaaDoor
set_option maxRecDepth 100000
open Go.RowKit

def slotW : List ByteArray := [⟨#[110]⟩, ⟨#[110, 97, 109, 101]⟩, ⟨#[120, 49]⟩]
def emptyW : List ByteArray := [⟨#[98, 114]⟩, ⟨#[105, 109, 103, 32, 97]⟩]
def openW : List ByteArray := [⟨#[98]⟩, ⟨#[105]⟩, ⟨#[97, 32, 104, 61, 49]⟩]
theorem getD_size (l : List ByteArray) (k : Nat) (h : ∀ x ∈ l, x.size ≤ 5) : (l.getD k ⟨#[]⟩).size ≤ 5 := by
  by_cases hk : k < l.length
  · rw [List.getD_eq_getElem?_getD, List.getElem?_eq_getElem hk]
    exact h _ (List.getElem_mem hk)
  · rw [List.getD_eq_getElem?_getD, List.getElem?_eq_none (by omega)]
    decide

def nameB (s : ByteArray) : ByteArray := ⟨(s.data.toList.takeWhile (fun c => c != 32)).toArray⟩
theorem nameB_size (s : ByteArray) : (nameB s).size ≤ s.size := by
  rw [Lib.size_eq, Lib.size_eq]
  show (s.data.toList.takeWhile _).toArray.toList.length ≤ _
  exact (List.takeWhile_prefix _).length_le

/-- The state behind some rounds. -/
structure FS where
  f : List Tk
  op : List Tk
  id : Nat
  N : Nat

/-- The item of a round, whose text and number c have been drawn, at place M: the item, the open tags, the last id, the place. -/
def itemL (L : List Int) (c : Int) (t : ByteArray) (op : List Tk) (id M : Nat) : Tk × List Tk × Nat × Nat :=
  if c = 0 ∨ c = 1 then (⟨5, slotW.getD (nextN L M 3).toNat ⟨#[]⟩, 0⟩, op, id, M + 1)
  else if c = 2 then (⟨4, emptyW.getD (nextN L M 2).toNat ⟨#[]⟩, (id + 1 : Nat)⟩, op, id + 1, M + 1)
  else if c = 3 ∨ c = 4 then (⟨2, openW.getD (nextN L M 3).toNat ⟨#[]⟩, (id + 1 : Nat)⟩, op ++ [⟨2, openW.getD (nextN L M 3).toNat ⟨#[]⟩, (id + 1 : Nat)⟩], id + 1, M + 1)
  else if c = 5 ∨ c = 6 then
    if 0 < op.length then (⟨3, nameB (op.getD (nextN L M op.length).toNat ⟨0, ⟨#[]⟩, 0⟩).t, (op.getD (nextN L M op.length).toNat ⟨0, ⟨#[]⟩, 0⟩).d⟩,
      op.take (nextN L M op.length).toNat ++ op.drop ((nextN L M op.length).toNat + 1), id, M + 1)
    else (⟨3, ⟨#[98]⟩, (id + 1 : Nat)⟩, op, id + 1, M)
  else (⟨1, t, 0⟩, op, id, M)

def fragStep (L : List Int) (s : FS) : FS :=
  let ln := lineL L s.N 3
  let x := itemL L (nextN L ln.2 8) ln.1 s.op s.id (ln.2 + 1)
  ⟨normL (s.f ++ [x.1]), x.2.1, x.2.2.1, x.2.2.2⟩
def fragGo (L : List Int) : Nat → FS → FS
  | 0, s => s
  | i + 1, s => fragGo L i (fragStep L s)
def fragL (L : List Int) (N : Nat) (n : Int) : FS := fragGo L (nextN L N (n + 1)).toNat ⟨[], [], 0, N + 1⟩

/-- What the items keep to. -/
structure FOK (s : FS) (r : Nat) : Prop where
  len : s.f.length ≤ r
  bytes : bytesOf s.f ≤ 18 * r
  oplen : s.op.length ≤ r
  opsz : ∀ x ∈ s.op, x.t.size ≤ 5
  id : s.id ≤ r
  num : s.N ≤ 1 + 9 * r
  kinds : Kinds s.f
  normal : Normal s.f

theorem item_ok (L : List Int) (c : Int) (t : ByteArray) (op : List Tk) (id M r : Nat) (ht : t.size ≤ 18) (h1 : op.length ≤ r) (h2 : ∀ x ∈ op, x.t.size ≤ 5) (h3 : id ≤ r) :
    ∀ x op' id' M', itemL L c t op id M = (x, op', id', M') → x.t.size ≤ 18 ∧ (1 ≤ x.k ∧ x.k ≤ 5) ∧ op'.length ≤ r + 1 ∧ (∀ x ∈ op', x.t.size ≤ 5) ∧ id' ≤ r + 1 ∧ M' ≤ M + 1 := by
  intro x op' id' M' h
  unfold itemL at h
  have hs := getD_size slotW (nextN L M 3).toNat (by decide)
  have he := getD_size emptyW (nextN L M 2).toNat (by decide)
  have ho := getD_size openW (nextN L M 3).toNat (by decide)
  split at h
  · cases h; exact ⟨Nat.le_trans hs (by decide), (by show (1 : Int) ≤ 5 ∧ (5 : Int) ≤ 5; decide), by omega, h2, by omega, by omega⟩
  split at h
  · cases h; exact ⟨Nat.le_trans he (by decide), (by show (1 : Int) ≤ 4 ∧ (4 : Int) ≤ 5; decide), by omega, h2, by omega, by omega⟩
  split at h
  · cases h
    refine ⟨Nat.le_trans ho (by decide), (by show (1 : Int) ≤ 2 ∧ (2 : Int) ≤ 5; decide), by simp; omega, fun y hy => ?_, by omega, by omega⟩
    rcases List.mem_append.1 hy with hy | hy
    · exact h2 y hy
    · rw [List.mem_singleton.1 hy]; exact ho
  split at h
  · split at h
    · rename_i hop
      cases h
      have hb := nextN_bd L M op.length (by omega)
      have hk : (nextN L M op.length).toNat < op.length := by omega
      refine ⟨?_, (by show (1 : Int) ≤ 3 ∧ (3 : Int) ≤ 5; decide), ?_, fun y hy => ?_, by omega, by omega⟩
      · show (nameB _).size ≤ 18
        refine Nat.le_trans (nameB_size _) ?_
        rw [List.getD_eq_getElem?_getD, List.getElem?_eq_getElem hk]
        have := h2 _ (List.getElem_mem hk)
        rw [Option.getD_some]
        omega
      · simp; omega
      · rcases List.mem_append.1 hy with hy | hy
        · exact h2 y (List.mem_of_mem_take hy)
        · exact h2 y (List.mem_of_mem_drop hy)
    · cases h; exact ⟨by show (1 : Nat) ≤ 18; omega, (by show (1 : Int) ≤ 3 ∧ (3 : Int) ≤ 5; decide), by omega, h2, by omega, by omega⟩
  · cases h; exact ⟨ht, (by show (1 : Int) ≤ 1 ∧ (1 : Int) ≤ 5; decide), by omega, h2, by omega, by omega⟩

theorem FOK.step (L : List Int) (s : FS) (r : Nat) (h : FOK s r) : FOK (fragStep L s) (r + 1) := by
  obtain ⟨f, op, id, N⟩ := s
  obtain ⟨h1, h2, h3, h4, h5, h6, h7, h8⟩ := h
  simp only at h1 h2 h3 h4 h5 h6 h7 h8
  have hl := lineL_bd L N 3 (by decide)
  unfold fragStep
  simp only
  generalize hln : lineL L N 3 = ln at hl
  obtain ⟨t, M⟩ := ln
  simp only at hl ⊢
  generalize hx : itemL L (nextN L M 8) t op id (M + 1) = x
  obtain ⟨x, op', id', M'⟩ := x
  have ht : t.size ≤ 18 := hl.1
  have hM : M ≤ N + 7 := hl.2
  obtain ⟨q1, q2, q3, q4, q5, q6⟩ := item_ok L _ t op id (M + 1) r ht h3 h4 h5 x op' id' M' hx
  refine ⟨?_, ?_, q3, q4, q5, ?_, ?_, ?_⟩
  · have := normL_length (f ++ [x])
    rw [List.length_append, List.length_singleton] at this
    show (normL (f ++ [x])).length ≤ r + 1
    omega
  · show bytesOf (normL (f ++ [x])) ≤ 18 * (r + 1)
    rw [normL_bytes, bytesOf_append, bytesOf_one]
    omega
  · show M' ≤ 1 + 9 * (r + 1)
    omega
  · refine Kinds.norm _ (fun y hy => ?_)
    rcases List.mem_append.1 hy with hy | hy
    · exact h7 y hy
    · rw [List.mem_singleton.1 hy]; exact q2
  · exact normL_normal _

theorem fragGo_ok (L : List Int) : ∀ i s r, FOK s r → FOK (fragGo L i s) (r + i)
  | 0, _, _, h => h
  | i + 1, s, r, h => by
    have := fragGo_ok L i (fragStep L s) (r + 1) (h.step L)
    rw [show r + 1 + i = r + (i + 1) by omega] at this
    exact this
theorem fok_start (N : Nat) (hN : N ≤ 1) : FOK ⟨[], [], 0, N⟩ 0 :=
  ⟨by simp, by simp [bytesOf], by simp, by simp, by simp, by simpa using hN, by intro x hx; simp at hx, trivial⟩

end Go.Proofs.YtpboaadjbkaidaaDoor

namespace Go.Proofs.YtpboaadjbkaidaaDoor
set_option maxRecDepth 100000
open Go.RowKit

theorem OwnT.unsnoc {e : TypeId} {w : World} {B : Nat} {v : Value} {l : List Tk} {x : Tk} (h : OwnT e w B v (l ++ [x])) : ∃ g cap, v = .slice (some ⟨g, 0, none⟩) (l.length + 1) cap ∧ B ≤ g ∧
    w.ownsRow B e 3 (.slice (some ⟨g, 0, none⟩) (l.length + 1) cap) (l.length + 1) (l.flatMap tkC ++ tkC x) := by
  unfold OwnT OwnE at h
  rw [List.length_append, List.flatMap_append] at h
  obtain ⟨g, c, hv, hb⟩ := own_some h (by simp)
  subst hv
  exact ⟨g, c, rfl, hb, by simpa using h⟩
section
variable {e : TypeId} {w : World} {B g cap : Nat} {l : List Tk} {x : Tk}
theorem OwnT.lastCells (h : w.ownsRow B e 3 (.slice (some ⟨g, 0, none⟩) (l.length + 1) cap) (l.length + 1) (l.flatMap tkC ++ tkC x)) :
    w.cell? ⟨g, l.length * 3, none⟩ = some (.int .i64 x.k) ∧ w.cell? ⟨g, l.length * 3 + 1, none⟩ = some (.string x.t) ∧ w.cell? ⟨g, l.length * 3 + 2, none⟩ = some (.int .i64 x.d) := by
  have hl := flat_length tkC 3 tkC_three l
  refine ⟨?_, ?_, ?_⟩
  · rw [h.cellAt _ (by omega), List.getElem?_append_right (by omega), hl, Nat.sub_self]; rfl
  · rw [h.cellAt _ (by omega), List.getElem?_append_right (by omega), hl, Nat.add_sub_cancel_left]; rfl
  · rw [h.cellAt _ (by omega), List.getElem?_append_right (by omega), hl, Nat.add_sub_cancel_left]; rfl
/-- The last token replaced, cell by cell. -/
theorem OwnT.lastSet (h : w.ownsRow B e 3 (.slice (some ⟨g, 0, none⟩) (l.length + 1) cap) (l.length + 1) (l.flatMap tkC ++ tkC x)) (y : Tk) :
    OwnT e (((w.setCell ⟨g, l.length * 3, none⟩ (.int .i64 y.k)).setCell ⟨g, l.length * 3 + 1, none⟩ (.string y.t)).setCell ⟨g, l.length * 3 + 2, none⟩ (.int .i64 y.d)) B (.slice (some ⟨g, 0, none⟩) (l.length + 1) cap) (l ++ [y]) := by
  have hl := flat_length tkC 3 tkC_three l
  have h1 := (h.stored (l.length * 3) (.int .i64 y.k)).1
  have h2 := (h1.stored (l.length * 3 + 1) (.string y.t)).1
  have h3 := (h2.stored (l.length * 3 + 2) (.int .i64 y.d)).1
  refine OwnE.snoc ?_
  rw [List.set_append_right _ _ (by omega), hl, Nat.sub_self, List.set_append_right _ _ (by omega), hl, Nat.add_sub_cancel_left, List.set_append_right _ _ (by omega), hl, Nat.add_sub_cancel_left] at h3
  exact h3
end

set_option maxHeartbeats 4000000 in
theorem rnorm_any (f : List Tk) (v : Value) (w : World) (hf : RdT w v f) (hl : f.length ≤ 100000) (hbt : bytesOf f ≤ 1000000) :
    Calls Tryd.prog 96 #[v] w (RetOwn 84 tkC 3 w (normL f)) := by
  obtain ⟨A, c, rfl, _, _⟩ := hf.shape
  have HF := Lib.hid hf
  clear hf
  go_enter Tryd.func96, Tryd.ntmps96
  go_wp2
  go_loopw [3, 9] (fun ov i wr => ∃ k : Nat, k ≤ f.length ∧ i = .int .i64 k ∧ Hid (OwnT 84 wr w.heap.size ov (normL (f.take k))) ∧ Below w.heap.size w wr) (fun _ i _ => f.length - (intOf i).toNat)
  case atStart => exact ⟨0, by omega, rfl, OwnE.nil, Below.refl _ _⟩
  case round =>
    obtain ⟨k, hk, rfl, HO, hb⟩ := hrel
    have hsize := hb.size
    by_cases hkl : k < f.length
    · obtain ⟨b, o, rfl, hbl, q1, q2, q3⟩ := RdT.at_ HF.out k hkl
      rw [← hb.cell (p := ⟨b, o + k * 3, none⟩) hbl] at q1
      rw [← hb.cell (p := ⟨b, o + k * 3 + 1, none⟩) hbl] at q2
      rw [← hb.cell (p := ⟨b, o + k * 3 + 2, none⟩) hbl] at q3
      have HT := Lib.hid (normL_take f k hkl)
      have hol : (normL (f.take k)).length ≤ 100000 := by
        have := normL_length (f.take k)
        rw [List.length_take] at this
        omega
      have hob : bytesOf (normL (f.take k)) + f[k].t.size ≤ 1000000 := by
        rw [normL_bytes]
        have := bytesOf_get f k hkl
        omega
      generalize f[k] = x at q1 q2 q3 HT hob
      obtain ⟨xk, xt, xd⟩ := x
      simp only at q1 q2 q3 hob
      generalize normL (f.take k) = out at HO HT hol hob
      by_cases h1 : xk = 1
      · subst h1
        by_cases he : xt.size = 0
        · have hxe : xt = ⟨#[]⟩ := bytes_ext (List.eq_nil_of_length_eq_zero (by rw [← Lib.size_eq]; exact he))
          have HX := Lib.hid (step_empty out ⟨1, xt, xd⟩ rfl he)
          subst hxe
          obtain ⟨A', c', hv⟩ := own_shape HO.out
          subst hv
          go_wp2_with fail
          refine ⟨⟨k + 1, by omega, by go_num, ?_, hb.alloc hsize _⟩, by simp [intOf]; try omega⟩
          rw [HT.out, HX.out]
          exact World.ownsRow.alloc HO.out _
        · have hne : (xt.toList == []) = false := by
            rw [beq_eq_false_iff_ne, toList_eq_data]
            intro h
            apply he
            rw [Lib.size_eq, h]
            rfl
          have hne2 : xt.toList.isEmpty = false := by
            rw [List.isEmpty_eq_false_iff]
            simpa using hne
          rcases List.eq_nil_or_concat out with rfl | ⟨o2, y, rfl⟩
          · have HX := Lib.hid (step_first ⟨1, xt, xd⟩ rfl he)
            obtain ⟨A', c', hv⟩ := own_shape HO.out
            subst hv
            clear he
            go_wp2_with (at_builtin; go_must (refine wpList_app1 rfl (.tmp 53) (.tmp 57) 57 84 rfl Tryd.underlying57 _ 3 32 item_info rfl (by decide) w.heap.size _ 0 [] rfl (by exact World.ownsRow.alloc (World.ownsRow.alloc HO.out _) _) ⟨wr.heap.size + 1, 0, none⟩ 1 (tkC ⟨1, xt, 0⟩) rfl rfl (by exact cells_at _ _ (by simp) _ _) (tkC_one _) (by omega) (by decide) (by simp; omega) ?_); intro g cap w1 hown1 hg1 hbel1 hgr1)
            refine ⟨⟨k + 1, by omega, by go_num, ?_, hbel1 _ _ (Nat.le_refl _) (by exact (hb.alloc hsize _).alloc (by simp; omega) _)⟩, by simp [intOf]; try omega⟩
            rw [HT.out, HX.out]
            exact hown1
          · rw [List.concat_eq_append] at HO HT hol hob
            obtain ⟨yk, yt, yd⟩ := y
            obtain ⟨g, cap, hv, hg, hown⟩ := OwnT.unsnoc HO.out
            subst hv
            obtain ⟨p1, p2, p3⟩ := OwnT.lastCells hown
            have hol2 : o2.length + 1 ≤ 100000 := by simpa using hol
            have hgl : g < wr.heap.size := World.block_lt_of_cell? _ _ p1
            have p1' : ∀ ob, (wr.alloc ob).cell? ⟨g, o2.length * 3, none⟩ = some (.int .i64 yk) := fun ob => (World.cell?_alloc_lt _ _ _ hgl).trans p1
            by_cases hy : yk = 1
            · subst hy
              have HX := Lib.hid (step_join o2 ⟨1, yt, yd⟩ ⟨1, xt, xd⟩ rfl he rfl)
              have hyt : yt.size + xt.size ≤ 1000000 := by
                rw [bytesOf_append, bytesOf_one] at hob
                simp only at hob
                omega
              clear he hol hob
              go_wp2_with fail
              have s1 := (World.cell?_alloc_lt wr (.cells #[.int .i64 1, .string xt, .int .i64 xd] 84) ⟨g, o2.length * 3, none⟩ hgl).trans p1
              have s2 := (World.cell?_alloc_lt wr (.cells #[.int .i64 1, .string xt, .int .i64 xd] 84) ⟨g, o2.length * 3 + 1, none⟩ hgl).trans p2
              have s3 := (World.cell?_alloc_lt wr (.cells #[.int .i64 1, .string xt, .int .i64 xd] 84) ⟨g, o2.length * 3 + 2, none⟩ hgl).trans p3
              have z1 : (wr.alloc (.cells #[.int .i64 1, .string xt, .int .i64 xd] 84)).cell? ⟨wr.heap.size, 1, none⟩ = some (.string xt) := cells_at wr _ rfl [.int .i64 1, .string xt, .int .i64 xd] 84 1 _ rfl
              have hownW := World.ownsRow.alloc hown (.cells #[.int .i64 1, .string xt, .int .i64 xd] 84)
              have fz := fun j => hownW.frozenAt j
              have hbW := hb.alloc hsize (.cells #[.int .i64 1, .string xt, .int .i64 xd] 84)
              have HOW := Lib.hid hownW
              have HBW := Lib.hid hbW
              have hsW : (wr.alloc (.cells #[.int .i64 1, .string xt, .int .i64 xd] 84)).heap.size = wr.heap.size + 1 := by simp
              have HSW := Lib.hid hsW
              have ew : IntKind.i64.wrap ((o2.length : Int) + 1 - 1) = (o2.length : Int) := by rw [IntKind.wrap_i64]; omega
              clear p1 p2 p3 p1' hownW hbW hsW q1 q2 q3 hown HO
              generalize (wr.alloc (.cells #[.int .i64 1, .string xt, .int .i64 xd] 84)) = W1 at s1 s2 s3 z1 fz HOW HBW HSW ⊢
              go_region
              go_wp2_with fail
              refine ⟨⟨k + 1, by omega, by go_num, ?_, ?_⟩, by simp [intOf]; try omega⟩
              · rw [HT.out, HX.out]
                exact OwnT.lastSet HOW.out ⟨1, yt ++ xt, 0⟩
              · exact (((HBW.out.setCell (p := ⟨g, o2.length * 3, none⟩) hg _).setCell (p := ⟨g, o2.length * 3 + 1, none⟩) hg _).setCell (p := ⟨g, o2.length * 3 + 2, none⟩) hg _).drew
            · have HX := Lib.hid (step_new o2 ⟨yk, yt, yd⟩ ⟨1, xt, xd⟩ rfl he hy)
              have hyf : (yk == 1) = false := by simpa using hy
              have hol3 : (o2 ++ [⟨yk, yt, yd⟩] : List Tk).length = o2.length + 1 := by simp
              have HOW := Lib.hid hown
              clear he hy hob hol hown
              go_wp2_with (at_builtin; go_must (refine wpList_app1 rfl (.tmp 53) (.tmp 57) 57 84 rfl Tryd.underlying57 _ 3 32 item_info rfl (by decide) w.heap.size _ (o2.length + 1) (o2.flatMap tkC ++ tkC ⟨yk, yt, yd⟩) rfl (by exact World.ownsRow.alloc (World.ownsRow.alloc HOW.out _) _) ⟨wr.heap.size + 1, 0, none⟩ 1 (tkC ⟨1, xt, 0⟩) rfl rfl (by exact cells_at _ _ (by simp) _ _) (tkC_one _) (by omega) (by decide) (by simp; omega) ?_); intro g2 cap2 w1 hown1 hg3 hbel1 hgr1)
              refine ⟨⟨k + 1, by omega, by go_num, ?_, hbel1 _ _ (Nat.le_refl _) (by exact (hb.alloc hsize _).alloc (by simp; omega) _)⟩, by simp [intOf]; try omega⟩
              rw [HT.out, HX.out]
              refine OwnE.snoc ?_
              rw [hol3, List.flatMap_append]
              simpa using hown1
      · have HX := Lib.hid (step_other out ⟨xk, xt, xd⟩ h1)
        have hxf : (xk == 1) = false := by simpa using h1
        have hxn : (xk != 1) = true := by simpa using h1
        obtain ⟨A', c', hv⟩ := own_shape HO.out
        subst hv
        clear h1
        go_wp2_with (at_builtin; go_must (refine wpList_app1 rfl (.tmp 19) (.tmp 21) 57 84 rfl Tryd.underlying57 _ 3 32 item_info rfl (by decide) w.heap.size _ _ _ rfl (by exact World.ownsRow.alloc (World.ownsRow.alloc HO.out _) _) ⟨wr.heap.size + 1, 0, none⟩ 1 (tkC ⟨xk, xt, xd⟩) rfl rfl (by exact cells_at _ _ (by simp) _ _) (tkC_one _) (by omega) (by decide) (by simp; omega) ?_); intro g cap w1 hown1 hg1 hbel1 hgr1)
        refine ⟨⟨k + 1, by omega, by go_num, ?_, hbel1 _ _ (Nat.le_refl _) (by exact (hb.alloc hsize _).alloc (by simp; omega) _)⟩, by simp [intOf]; try omega⟩
        rw [HT.out, HX.out]
        exact OwnE.snoc hown1
    · obtain rfl : k = f.length := by omega
      obtain ⟨A', c', hv⟩ := own_shape HO.out
      subst hv
      go_wp2_with fail
      go_ret
      refine ⟨_, rfl, ?_, hb⟩
      have he := HO.out
      rw [List.take_length] at he ⊢
      exact he

theorem rconcat_any (f g : List Tk) (v u : Value) (w : World) (hf : RdT w v f) (hg : RdT w u g) (hl : f.length + g.length ≤ 100000) (hbt : bytesOf f + bytesOf g ≤ 1000000) :
    Calls Tryd.prog 71 #[v, u] w (RetOwn 84 tkC 3 w (normL (f ++ g))) := by
  obtain ⟨A, c, rfl, _, _⟩ := hf.shape
  obtain ⟨A2, c2, rfl, _, _⟩ := hg.shape
  have HF := Lib.hid hf
  have HG := Lib.hid hg
  clear hf hg
  go_enter Tryd.func71, Tryd.ntmps71
  go_wp2_with (first
    | (at_builtin; refine wpList_appE rfl (.const (.slice none 0 0)) (.tmp 5) 57 84 rfl Tryd.underlying57 _ tkC 3 32 item_info rfl (by decide) tkC_three tkC_one w.heap.size _ [] rfl (by exact OwnE.nil) _ f rfl (by exact HF.out) (by simp; omega) (by decide) (Nat.le_refl _) ?_; intro v1 w1 hown1 hbel1 hgr1; have HO1 := Lib.hid hown1; have HB1 := Lib.hid (hbel1 w.heap.size w (Nat.le_refl _) (Below.refl _ _)); have hz1 := HB1.out.size; clear hown1 hbel1 hgr1)
    | (at_builtin; refine wpList_appE rfl (.tmp 6) (.tmp 7) 57 84 rfl Tryd.underlying57 _ tkC 3 32 item_info rfl (by decide) tkC_three tkC_one w.heap.size _ f rfl (by exact HO1.out) _ g rfl (by exact RdE.below HG.out HB1.out (Nat.le_refl _)) (by omega) (by decide) hz1 ?_; intro v2 w2 hown2 hbel2 hgr2; have HO2 := Lib.hid hown2; have HB2 := Lib.hid (hbel2 w.heap.size w (Nat.le_refl _) HB1.out); have hz2 := HB2.out.size; clear hown2 hbel2 hgr2)
    | (go_at_call 96; refine (rnorm_any (f ++ g) _ _ (by exact OwnE.rd tkC_three HO2.out) (by rw [List.length_append]; exact hl) (by rw [bytesOf_append]; exact hbt)).mono ?_; rintro e w3 ⟨v3, rfl, hown3, hb3⟩))
  go_ret
  exact ⟨v3, rfl, own_base hown3 hz2, HB2.out.trans (hb3.mono hz2)⟩

/-- The name of the content of a tag. -/
def nameOf (l : List UInt8) : List UInt8 := l.takeWhile (fun c => c != 32)

theorem nameOf_sp (c : UInt8) (r : List UInt8) (h : c = 32) : nameOf (c :: r) = [] := by
  subst h
  rfl
theorem nameOf_in (c : UInt8) (r : List UInt8) (h : (c != 32) = true) : nameOf (c :: r) = c :: nameOf r := by
  rw [nameOf, List.takeWhile_cons, if_pos h]
  rfl

theorem name_any (s : ByteArray) (w : World) (hs : s.size ≤ 1000000) :
    Calls Tryd.prog 70 #[.string s] w fun e w' => e = .returned (.string ⟨(nameOf s.data.toList).toArray⟩) ∧ w = w' := by
  go_enter Tryd.func70, Tryd.ntmps70
  go_wp2
  go_loop [3] (fun i => ∃ k : Nat, k ≤ s.size ∧ i = .int .i64 k ∧ Hid (nameOf s.data.toList = s.data.toList.take k ++ nameOf (s.data.toList.drop k))) (fun i => s.size - (intOf i).toNat)
  case atStart => exact ⟨0, by omega, rfl, rfl⟩
  case round =>
    obtain ⟨k, hk, rfl, HR⟩ := hrel
    by_cases hlt : k < s.size
    · have hl : k < s.data.toList.length := by rw [← Lib.size_eq]; exact hlt
      have h255 : s[k].toNat < 256 := s[k].toNat_lt
      have HD := Lib.hid (show s.data.toList.drop k = s[k] :: s.data.toList.drop (k + 1) from List.drop_eq_getElem_cons hl)
      have HK := Lib.hid (show s.data.toList.take (k + 1) = s.data.toList.take k ++ [s[k]] from List.take_succ_eq_append_getElem hl)
      by_cases hc : s[k].toNat = 32
      · have ht : ((s[k].toNat : Int) == 32) = true := by simp; omega
        have h32 : s[k] = 32 := UInt8.toNat_inj.1 hc
        have H32 := Lib.hid h32
        clear hc h32
        go_wp2_with fail
        go_ret
        have hj := HR.out
        rw [HD.out, nameOf_sp _ _ H32.out, List.append_nil] at hj
        refine ⟨ret_val ?_, rfl⟩
        rw [hj]
        show Value.string (s.extract 0 k) = _
        rw [Lib.extract_eq, List.drop_zero, Nat.sub_zero]
      · have ht : ((s[k].toNat : Int) == 32) = false := by simp; omega
        have h32 : (s[k] != 32) = true := by
          rw [bne_iff_ne]
          intro h
          rw [h] at hc
          exact hc rfl
        have H32 := Lib.hid h32
        clear hc h32
        go_wp2_with fail
        refine ⟨⟨k + 1, by omega, by go_num, ?_⟩, by simp [intOf]; try omega⟩
        have hj := HR.out
        show _ = _
        rw [hj, HD.out, HK.out, List.append_assoc, nameOf_in _ _ H32.out]
        rfl
    · have hz : s.data.toList.drop k = [] := List.drop_of_length_le (by rw [← Lib.size_eq]; omega)
      have hz2 : s.data.toList.take k = s.data.toList := List.take_of_length_le (by rw [← Lib.size_eq]; omega)
      go_wp2_with fail
      go_ret
      have hj := HR.out
      rw [hz, hz2] at hj
      refine ⟨ret_val ?_, rfl⟩
      rw [hj]
      show Value.string s = .string ⟨(s.data.toList ++ []).toArray⟩
      rw [List.append_nil, Lib.mk_data]

end Go.Proofs.YtpboaadjbkaidaaDoor

namespace Go.Proofs.YtpboaadjbkaidaaDoor
set_option maxRecDepth 100000
open Go.RowKit

theorem RdT.one_at (w : World) (g : Nat) (hg : w.heap.size = g) (x : Tk) (t : TypeId) : RdT (w.alloc (.cells (tkC x).toArray t)) (.slice (some ⟨g, 0, none⟩) 1 1) [x] := by
  subst hg
  refine ⟨some ⟨w.heap.size, 0, none⟩, 1, rfl, by simp, (fun h => by cases h), fun _ => ⟨w.heap.size, 0, rfl, by simp, fun i y j u hi hj => ?_⟩⟩
  have hi0 : i = 0 := by
    have := (List.getElem?_eq_some_iff.1 hi).1
    simpa using this
  subst hi0
  simp at hi
  subst hi
  have := cells_new w (tkC x) t j u hj
  rw [Addr.add_lit] at this
  simpa using this
theorem Nums.keepg {w w' : World} {g : Nat} {L : List Int} {N : Nat} (h : Nums w g L N) (hk : ∀ k, k ≤ g → w'.heap[k]? = w.heap[k]?) : Nums w' g L N := by
  obtain ⟨v, W0, h1, h2, h3, h4, h5⟩ := h
  exact ⟨v, W0, (hk g (Nat.le_refl _)).trans h1, h2, h3, fun k hk' => (hk k (by omega)).trans (h4 k hk'), h5⟩
theorem box_facts {w : World} {b : Nat} {v0 v1 v2 : Value} {t : TypeId} (h : w.heap[b]? = some (.cells #[v0, v1, v2] t)) :
    w.cell? ⟨b, 0, none⟩ = some v0 ∧ w.cell? ⟨b, 1, none⟩ = some v1 ∧ w.cell? ⟨b, 2, none⟩ = some v2 ∧ w.frozen? ⟨b, 0, none⟩ = false ∧ w.frozen? ⟨b, 1, none⟩ = false ∧ w.frozen? ⟨b, 2, none⟩ = false :=
  ⟨by rw [cell_of_row _ _ 0 _ _ _ h]; rfl, by rw [cell_of_row _ _ 1 _ _ _ h]; rfl, by rw [cell_of_row _ _ 2 _ _ _ h]; rfl, frozen_rowM h 0, frozen_rowM h 1, frozen_rowM h 2⟩
theorem words_at {w w' : World} {g : Nat} {xs : List ByteArray} {t : TypeId} (z : Int) (h0 : 0 ≤ z) (hz : z < xs.length) (hg : g < w.heap.size) (hb : But g (w.alloc (.cells (xs.map Value.string).toArray t)) w') :
    w'.cell? ⟨w.heap.size, z.toNat, none⟩ = some (.string (xs.getD z.toNat ⟨#[]⟩)) := by
  rw [World.cell?_of_block (w := w.alloc (.cells (xs.map Value.string).toArray t)) (hb.block _ (by simp) (by show w.heap.size ≠ g; omega))]
  exact cells_strs w w.heap.size rfl xs t z.toNat (by omega)
theorem set_row {w : World} {b : Nat} {cs : Array Value} {t : TypeId} (h : w.heap[b]? = some (.cells cs t)) (j : Nat) (u : Value) : (w.setCell ⟨b, j, none⟩ u).heap[b]? = some (.cells (cs.setIfInBounds j u) t) := by
  show (w.heap.modify b _)[b]? = _
  rw [Array.getElem?_modify, if_pos rfl, h]
  rfl
theorem box_set3 {w : World} {b : Nat} {v0 v1 v2 : Value} {t : TypeId} (h : w.heap[b]? = some (.cells #[v0, v1, v2] t)) (u0 u1 u2 : Value) :
    (((w.setCell ⟨b, 0, none⟩ u0).setCell ⟨b, 1, none⟩ u1).setCell ⟨b, 2, none⟩ u2).heap[b]? = some (.cells #[u0, u1, u2] t) :=
  set_row (set_row (set_row h 0 u0) 1 u1) 2 u2
theorem set3_other {w : World} {b : Nat} (u0 u1 u2 : Value) (k : Nat) (h : k ≠ b) : (((w.setCell ⟨b, 0, none⟩ u0).setCell ⟨b, 1, none⟩ u1).setCell ⟨b, 2, none⟩ u2).heap[k]? = w.heap[k]? := by
  rw [Below.heap_setCell _ _ _ _ h, Below.heap_setCell _ _ _ _ h, Below.heap_setCell _ _ _ _ h]
theorem set3_size {w : World} {b : Nat} (u0 u1 u2 : Value) : (((w.setCell ⟨b, 0, none⟩ u0).setCell ⟨b, 1, none⟩ u1).setCell ⟨b, 2, none⟩ u2).heap.size = w.heap.size := by simp [World.setCell]

def NotAt (b : Nat) (v : Value) : Prop := ∀ k, v.ownBlock = some k → k ≠ b
def Apart (v u : Value) : Prop := ∀ k, v.ownBlock = some k → u.ownBlock ≠ some k

/-- What a round's item, the list so far and the open tags are, in a world. -/
structure FR (g b : Nat) (w : World) (fv : Value) (f : List Tk) (L : List Int) (ov : Value) (op : List Tk) (x : Tk) (M : Nat) (wx : World) : Prop where
  own : OwnT 84 wx w.heap.size fv f
  ownO : OwnT 84 wx w.heap.size ov op
  apart : Apart fv ov
  nf : NotAt b fv
  no : NotAt b ov
  box : wx.heap[b]? = some (.cells #[.int .i64 x.k, .string x.t, .int .i64 x.d] 84)
  but : But g w wx
  num : Nums wx g L M
  gB : g < w.heap.size
  bB : w.heap.size ≤ b

section
variable {g b : Nat} {w : World} {fv : Value} {f : List Tk} {L : List Int} {ov ov' : Value} {op op' : List Tk} {x : Tk} {M M' : Nat} {wx w' : World}
theorem FR.call (h : FR g b w fv f L ov op x M wx) (hb : But g wx w') (hn : Nums w' g L M') : FR g b w fv f L ov op x M' w' := by
  have hg := h.gB
  have hbB := h.bB
  refine ⟨own_same h.own fun k hk => ?_, own_same h.ownO fun k hk => ?_, h.apart, h.nf, h.no, ?_, h.but.trans hb, hn, hg, hbB⟩
  · have := h.own.lt k hk
    exact hb.block k this.2 (by omega)
  · have := h.ownO.lt k hk
    exact hb.block k this.2 (by omega)
  · rw [hb.block b (Array.getElem?_eq_some_iff.1 h.box).1 (by omega)]
    exact h.box
theorem FR.alloc (h : FR g b w fv f L ov op x M wx) (o : Obj) : FR g b w fv f L ov op x M (wx.alloc o) := h.call ((But.refl _ _).alloc o) (h.num.alloc o)
theorem FR.drew (h : FR g b w fv f L ov op x M wx) : FR g b w fv f L ov op x M wx.drew := h.call ((But.refl g wx).drewN 1) (h.num.keepg fun _ _ => rfl)
theorem FR.set3 (h : FR g b w fv f L ov op x M wx) (y : Tk) : FR g b w fv f L ov op y M (((wx.setCell ⟨b, 0, none⟩ (.int .i64 y.k)).setCell ⟨b, 1, none⟩ (.string y.t)).setCell ⟨b, 2, none⟩ (.int .i64 y.d)) := by
  have hg := h.gB
  have hbB := h.bB
  refine ⟨own_same h.own fun k hk => set3_other _ _ _ _ (h.nf k hk), own_same h.ownO fun k hk => set3_other _ _ _ _ (h.no k hk), h.apart, h.nf, h.no, box_set3 h.box _ _ _, ?_, h.num.keepg fun k hk => set3_other _ _ _ _ (by omega), hg, hbB⟩
  exact ⟨h.but.os, h.but.tape, h.but.output, by rw [set3_size]; exact h.but.size, fun k hk hn => (set3_other _ _ _ _ (by omega)).trans (h.but.block k hk hn)⟩
theorem FR.push (h : FR g b w fv f L ov op x M wx) (hown : OwnT 84 w' w.heap.size ov' op') (hgr : wx.grownBy w' ov.ownBlock) (hat : ov'.ownBlock = ov.ownBlock ∨ ov'.ownBlock = some wx.heap.size) : FR g b w fv f L ov' op' x M w' := by
  have hg := h.gB
  have hbB := h.bB
  have hbl := (Array.getElem?_eq_some_iff.1 h.box).1
  have hsz := h.but.size
  have hO := h.ownO.lt
  refine ⟨own_same h.own fun k hk => hgr.block k (h.own.lt k hk).2 (fun e => h.apart k hk e.symm), hown, fun k hk e => ?_, h.nf, fun k hk => ?_, ?_, ?_, h.num.keepg fun k hk => ?_, hg, hbB⟩
  · rcases hat with hat | hat
    · rw [hat] at e; exact h.apart k hk e
    · rw [hat] at e
      injection e with e
      have := (h.own.lt k hk).2
      omega
  · rcases hat with hat | hat
    · rw [hat] at hk; exact h.no k hk
    · rw [hat] at hk
      injection hk with hk
      omega
  · rw [hgr.block b hbl (fun e => h.no b e.symm rfl)]
    exact h.box
  · exact ⟨hgr.os.trans h.but.os, hgr.tape.trans h.but.tape, hgr.output.trans h.but.output, Nat.le_trans h.but.size hgr.size, fun k hk hn => (hgr.block k (by omega) (fun e => by have := (hO k e.symm).1; omega)).trans (h.but.block k hk hn)⟩
  · exact hgr.block k (by omega) (fun e => by have := (hO k e.symm).1; omega)
theorem FR.fresh (h : FR g b w fv f L ov op x M wx) (hb : Below wx.heap.size wx w') (hown : OwnT 84 w' wx.heap.size ov' op') : FR g b w fv f L ov' op' x M w' := by
  have hg := h.gB
  have hbB := h.bB
  have hbl := (Array.getElem?_eq_some_iff.1 h.box).1
  have hsz := h.but.size
  have hO := hown.lt
  refine ⟨own_same h.own fun k hk => hb.block k (h.own.lt k hk).2, own_base hown hsz, fun k hk e => ?_, h.nf, fun k hk => ?_, ?_, ?_, h.num.keepg fun k hk => hb.block k (by omega), hg, hbB⟩
  · have := (h.own.lt k hk).2
    have := (hO k e).1
    omega
  · have := (hO k hk).1
    omega
  · rw [hb.block b hbl]
    exact h.box
  · exact ⟨hb.os.trans h.but.os, hb.tape.trans h.but.tape, hb.output.trans h.but.output, Nat.le_trans h.but.size hb.size, fun k hk hn => (hb.block k (by omega)).trans (h.but.block k hk hn)⟩
end

/-- A call that has made a fragment. -/
def FragRet (g : Nat) (l : List Tk) (w : World) (e : Ending) (w' : World) : Prop := ∃ v, e = .returned v ∧ OwnT 84 w' w.heap.size v l ∧ But g w w'

set_option maxRecDepth 100000 in
set_option maxHeartbeats 16000000 in
theorem fragment_any' (L : List Int) (g : Nat) (n : Nat) (w : World) (h : Nums w g L 0) (hn : n ≤ 100) :
    Calls Tryd.prog 35 #[.pointer (some ⟨g, 0, none⟩), .int .i64 n, .bool true, .bool false] w (FragRet g (fragL L 0 n).f w) := by
  have HT : Hid (fragGo L (nextN L 0 ((n : Int) + 1)).toNat ⟨[], [], 0, 1⟩ = fragL L 0 n) := by show fragGo L (nextN L 0 ((n : Int) + 1)).toNat ⟨[], [], 0, 1⟩ = fragL L 0 n; rfl
  have hb := nextN_bd L 0 ((n : Int) + 1) (by omega)
  have HNX := Lib.hid (next_any' L g 0 ((n : Int) + 1) w h (by omega) (by omega) (by omega))
  have hgB := h.lt
  generalize nextN L 0 ((n : Int) + 1) = z at HT hb HNX
  generalize fragL L 0 n = tgt at HT
  obtain ⟨m, rfl⟩ : ∃ m : Nat, z = (m : Int) := ⟨z.toNat, by omega⟩
  rw [Int.toNat_natCast] at HT
  have hm : m ≤ 100 := by omega
  clear h
  go_enter Tryd.func35, Tryd.ntmps35
  go_wp2_with fail
  refine (HNX.out).mono ?_
  rintro e w1 ⟨rfl, hb1, hn1⟩
  have HB1 := Lib.hid hb1
  have HN1 := Lib.hid hn1
  clear hb1 hn1
  go_wp2_with fail
  go_loopw [9, 10, 11, 12] (fun fv ov dv iv wr => ∃ (s : FS) (i r : Nat), dv = .int .i64 s.id ∧ iv = .int .i64 i ∧ r + i = m ∧ FOK s r ∧ OwnT 84 wr w.heap.size fv s.f ∧ OwnT 84 wr w.heap.size ov s.op ∧ Hid (Apart fv ov) ∧ Hid (But g w wr) ∧ Hid (Nums wr g L s.N) ∧ Hid (fragGo L i s = tgt)) (fun _ _ _ iv _ => (intOf iv).toNat)
  case atStart => exact ⟨⟨[], [], 0, 1⟩, m, 0, rfl, rfl, by omega, fok_start 1 (Nat.le_refl _), OwnE.nil, OwnE.nil, fun k hk => (by cases hk), HB1.out, HN1.out, HT.out⟩
  case round =>
    obtain ⟨⟨f, op, id, N'⟩, i, r, rfl, rfl, hri, hok, hof, hoo, HAP, HB, HN, HG⟩ := hrel
    cases i with
    | zero =>
      have he := HG.out
      rw [fragGo] at he
      subst he
      have HF := Lib.hid hof
      obtain ⟨A1, c1, hv1⟩ := own_shape hof
      subst hv1
      obtain ⟨A2, c2, hv2⟩ := own_shape hoo
      subst hv2
      have hop := hok.oplen
      simp only at hop
      clear hof hoo hok HT
      go_wp2_with fail
      go_loopw [9, 15] (fun fv kv wr' => wr' = wr ∧ fv = .slice A1 f.length c1 ∧ kv = .int .i64 ((op.length : Int) - 1)) (fun _ _ _ => 0)
      case atStart => exact ⟨rfl, rfl, by go_num⟩
      case round =>
        obtain ⟨rfl, rfl, rfl⟩ := hrel
        have e0 : (decide (0 ≤ (op.length : Int) - 1) && false) = false := by simp
        by_cases hp : 0 ≤ (op.length : Int) - 1
        · go_wp2_with fail
          go_ret
          exact ⟨_, rfl, HF.out, HB.out⟩
        · go_wp2_with fail
          go_ret
          exact ⟨_, rfl, HF.out, HB.out⟩
    | succ i =>
      have hl := lineL_bd L N' 3 (by decide)
      have hfn := hok.num
      simp only at hfn
      have HLN := Lib.hid (line_any' L g N' 3 wr HN.out (by omega) (by decide) (by decide))
      have HG2 := HG.out
      rw [fragGo] at HG2
      have hst : fragStep L ⟨f, op, id, N'⟩ = ⟨normL (f ++ [(itemL L (nextN L (lineL L N' 3).2 8) (lineL L N' 3).1 op id ((lineL L N' 3).2 + 1)).1]), (itemL L (nextN L (lineL L N' 3).2 8) (lineL L N' 3).1 op id ((lineL L N' 3).2 + 1)).2.1,
        (itemL L (nextN L (lineL L N' 3).2 8) (lineL L N' 3).1 op id ((lineL L N' 3).2 + 1)).2.2.1, (itemL L (nextN L (lineL L N' 3).2 8) (lineL L N' 3).1 op id ((lineL L N' 3).2 + 1)).2.2.2⟩ := rfl
      have hok2 := hok.step L
      rw [hst] at HG2 hok2
      generalize lineL L N' 3 = ln at hl HLN HG2 hok2
      obtain ⟨t, M⟩ := ln
      simp only at hl HLN HG2 hok2
      have c8 := nextN_bd L M 8 (by decide)
      have HX8 := Lib.hid (fun w h => next_any' L g M 8 w h (by omega) (by decide) (by decide))
      generalize nextN L M 8 = c at c8 HX8 HG2 hok2
      have HF := Lib.hid hof
      obtain ⟨A1, d1, hv1⟩ := own_shape hof
      subst hv1
      have HO := Lib.hid hoo
      obtain ⟨A2, d2, hv2⟩ := own_shape hoo
      subst hv2
      have hop := hok.oplen
      have hfl := hok.len
      have hby := hok.bytes
      have hsz5 := hok.opsz
      simp only at hop hfl hby hsz5
      have HGG := Lib.hid HG2
      have HOK := Lib.hid hok2
      have HS5 := Lib.hid hsz5
      have hid := hok.id
      simp only at hid
      clear hst hok2 HG2 HG hof hoo hok HT hsz5
      go_wp2_with fail
      refine (HLN.out).mono ?_
      rintro e w2 ⟨rfl, hb2, hn2⟩
      have hB2 := HB.out.trans hb2
      have HF2 := Lib.hid (own_same HF.out (w' := w2) fun k hk => by have := HF.out.lt k hk; exact hb2.block k this.2 (by omega))
      have HO2 := Lib.hid (own_same HO.out (w' := w2) fun k hk => by have := HO.out.lt k hk; exact hb2.block k this.2 (by omega))
      have HN2 := Lib.hid hn2
      have hg2 := hn2.lt
      have HB2 := Lib.hid hB2
      have hsz2 := hB2.size
      clear hb2 hn2 hB2 HF HO HN HLN HB
      go_upto_block 2 with (go_at_call 63; refine (HX8.out _ (by exact HN2.out.alloc _)).mono ?_; rintro e w3 ⟨rfl, hb3, hn3⟩)
      have HFR : FR g w2.heap.size w (.slice A1 f.length d1) f L (.slice A2 op.length d2) op ⟨1, t, 0⟩ (M + 1) w3 := by
        have h0 : FR g w2.heap.size w (.slice A1 f.length d1) f L (.slice A2 op.length d2) op ⟨1, t, 0⟩ M (w2.alloc (.cells #[.int .i64 1, .string t, .int .i64 0] 84)) := by
          refine ⟨own_same HF2.out fun k hk => Below.heap_alloc _ _ _ (HF2.out.lt k hk).2, own_same HO2.out fun k hk => Below.heap_alloc _ _ _ (HO2.out.lt k hk).2, HAP.out, fun k hk => ?_, fun k hk => ?_, Array.getElem?_push_size, HB2.out.alloc _, HN2.out.alloc _, hgB, hsz2⟩
          · have := (HF2.out.lt k hk).2; omega
          · have := (HO2.out.lt k hk).2; omega
        exact h0.call hb3 hn3
      have hg3 := hn3.lt
      clear hb3 hn3 HX8 HF2 HO2 HN2 HB2 HAP
      go_cut [10, 11] (fun ov dv wx => ∃ (x : Tk) (op' : List Tk) (id' M' : Nat), dv = .int .i64 id' ∧ Hid (itemL L c t op id (M + 1) = (x, op', id', M')) ∧ FR g w2.heap.size w (.slice A1 f.length d1) f L ov op' x M' wx)
      case first =>
        rcases (show c = 0 ∨ c = 1 ∨ c = 2 ∨ c = 3 ∨ c = 4 ∨ c = 5 ∨ c = 6 ∨ c = 7 from by omega) with rfl | rfl | rfl | rfl | rfl | rfl | rfl | rfl
        · have hz := nextN_bd L (M + 1) 3 (by decide)
          have HI : Hid (itemL L 0 t op id (M + 1) = (⟨5, slotW.getD (nextN L (M + 1) 3).toNat ⟨#[]⟩, 0⟩, op, id, M + 1 + 1)) := by
            show itemL L 0 t op id (M + 1) = _
            rfl
          have HX3 := Lib.hid (fun w h => next_any' L g (M + 1) 3 w h (by omega) (by decide) (by decide))
          generalize nextN L (M + 1) 3 = z at hz HI HX3
          have hzn : ((z.toNat : Nat) : Int) = z := by omega
          go_wp2_with fail
          refine (HX3.out _ (by exact HFR.num.alloc (.cells (slotW.map Value.string).toArray 9))).mono ?_
          rintro e w5 ⟨rfl, hb5, hn5⟩
          have q := words_at (xs := slotW) z hz.1 hz.2 hg3 (by exact hb5)
          have HFR5 := (HFR.alloc (.cells (slotW.map Value.string).toArray 9)).call hb5 hn5
          have hg5 := hn5.lt
          obtain ⟨p0, p1, p2, p3, p4, p5⟩ := box_facts HFR5.box
          generalize slotW.getD z.toNat ⟨#[]⟩ = word at q HI
          clear hb5 hn5 HX3
          go_wp2_with fail
          go_meet
          exact ⟨⟨5, word, 0⟩, op, id, M + 1 + 1, by go_num, HI.out, HFR5.set3 ⟨5, word, 0⟩⟩
        · have hz := nextN_bd L (M + 1) 3 (by decide)
          have HI : Hid (itemL L 1 t op id (M + 1) = (⟨5, slotW.getD (nextN L (M + 1) 3).toNat ⟨#[]⟩, 0⟩, op, id, M + 1 + 1)) := by
            show itemL L 1 t op id (M + 1) = _
            rfl
          have HX3 := Lib.hid (fun w h => next_any' L g (M + 1) 3 w h (by omega) (by decide) (by decide))
          generalize nextN L (M + 1) 3 = z at hz HI HX3
          have hzn : ((z.toNat : Nat) : Int) = z := by omega
          go_wp2_with fail
          refine (HX3.out _ (by exact HFR.num.alloc (.cells (slotW.map Value.string).toArray 9))).mono ?_
          rintro e w5 ⟨rfl, hb5, hn5⟩
          have q := words_at (xs := slotW) z hz.1 hz.2 hg3 (by exact hb5)
          have HFR5 := (HFR.alloc (.cells (slotW.map Value.string).toArray 9)).call hb5 hn5
          have hg5 := hn5.lt
          obtain ⟨p0, p1, p2, p3, p4, p5⟩ := box_facts HFR5.box
          generalize slotW.getD z.toNat ⟨#[]⟩ = word at q HI
          clear hb5 hn5 HX3
          go_wp2_with fail
          go_meet
          exact ⟨⟨5, word, 0⟩, op, id, M + 1 + 1, by go_num, HI.out, HFR5.set3 ⟨5, word, 0⟩⟩
        · have hz := nextN_bd L (M + 1) 2 (by decide)
          have HI : Hid (itemL L 2 t op id (M + 1) = (⟨4, emptyW.getD (nextN L (M + 1) 2).toNat ⟨#[]⟩, (id + 1 : Nat)⟩, op, id + 1, M + 1 + 1)) := by
            show itemL L 2 t op id (M + 1) = _
            rfl
          have HX3 := Lib.hid (fun w h => next_any' L g (M + 1) 2 w h (by omega) (by decide) (by decide))
          generalize nextN L (M + 1) 2 = z at hz HI HX3
          have hzn : ((z.toNat : Nat) : Int) = z := by omega
          go_wp2_with fail
          refine (HX3.out _ (by exact HFR.num.alloc (.cells (emptyW.map Value.string).toArray 9))).mono ?_
          rintro e w5 ⟨rfl, hb5, hn5⟩
          have q := words_at (xs := emptyW) z hz.1 hz.2 hg3 (by exact hb5)
          have HFR5 := (HFR.alloc (.cells (emptyW.map Value.string).toArray 9)).call hb5 hn5
          have hg5 := hn5.lt
          obtain ⟨p0, p1, p2, p3, p4, p5⟩ := box_facts HFR5.box
          generalize emptyW.getD z.toNat ⟨#[]⟩ = word at q HI
          clear hb5 hn5 HX3
          go_wp2_with fail
          go_meet
          exact ⟨⟨4, word, ((id + 1 : Nat) : Int)⟩, op, id + 1, M + 1 + 1, by go_num, HI.out, HFR5.set3 ⟨4, word, ((id + 1 : Nat) : Int)⟩⟩
        · have hz := nextN_bd L (M + 1) 3 (by decide)
          have HI : Hid (itemL L 3 t op id (M + 1) = (⟨2, openW.getD (nextN L (M + 1) 3).toNat ⟨#[]⟩, (id + 1 : Nat)⟩, op ++ [⟨2, openW.getD (nextN L (M + 1) 3).toNat ⟨#[]⟩, (id + 1 : Nat)⟩], id + 1, M + 1 + 1)) := by
            show itemL L 3 t op id (M + 1) = _
            rfl
          have HX3 := Lib.hid (fun w h => next_any' L g (M + 1) 3 w h (by omega) (by decide) (by decide))
          generalize nextN L (M + 1) 3 = z at hz HI HX3
          have hzn : ((z.toNat : Nat) : Int) = z := by omega
          go_wp2_with fail
          refine (HX3.out _ (by exact HFR.num.alloc (.cells (openW.map Value.string).toArray 9))).mono ?_
          rintro e w5 ⟨rfl, hb5, hn5⟩
          have q := words_at (xs := openW) z hz.1 hz.2 hg3 (by exact hb5)
          have HFR5 := (HFR.alloc (.cells (openW.map Value.string).toArray 9)).call hb5 hn5
          have hg5 := hn5.lt
          obtain ⟨p0, p1, p2, p3, p4, p5⟩ := box_facts HFR5.box
          generalize openW.getD z.toNat ⟨#[]⟩ = word at q HI
          clear hb5 hn5 HX3
          have hz5 := HFR5.but.size
          go_wp2_with (at_builtin; go_must (refine wpList_appAt rfl (.tmp 63) (.tmp 65) 57 84 rfl Tryd.underlying57 _ tkC 3 32 item_info rfl (by decide) tkC_three tkC_one w.heap.size _ op rfl (by exact ((HFR5.set3 ⟨2, word, (id : Int) + 1⟩).alloc _).ownO) _ [⟨2, word, (id : Int) + 1⟩] rfl (by exact RdT.one_at _ _ (set3_size _ _ _) ⟨2, word, (id : Int) + 1⟩ _) (by rw [List.length_singleton]; omega) (by decide) (by simp [World.setCell]; omega) ?_); intro v6 w6 hown6 hbel6 hgr6 hat6; obtain ⟨A6, d6, hv6⟩ := own_shape hown6; subst hv6; have HO6 := Lib.hid hown6; have HG6 := Lib.hid hgr6; have HA6 := Lib.hid hat6; clear hown6 hbel6 hgr6 hat6)
          go_meet
          have e6 : (op ++ [(⟨2, word, (id : Int) + 1⟩ : Tk)]).length = op.length + 1 := by simp
          have HF6 := ((HFR5.set3 ⟨2, word, (id : Int) + 1⟩).alloc _).push HO6.out HG6.out HA6.out
          rw [e6] at HF6
          have HI6 : Hid (itemL L 3 t op id (M + 1) = (⟨2, word, (id : Int) + 1⟩, op ++ [⟨2, word, (id : Int) + 1⟩], id + 1, M + 1 + 1)) := HI.out
          exact ⟨⟨2, word, (id : Int) + 1⟩, op ++ [⟨2, word, (id : Int) + 1⟩], id + 1, M + 1 + 1, by go_num, HI6, HF6⟩
        · have hz := nextN_bd L (M + 1) 3 (by decide)
          have HI : Hid (itemL L 4 t op id (M + 1) = (⟨2, openW.getD (nextN L (M + 1) 3).toNat ⟨#[]⟩, (id + 1 : Nat)⟩, op ++ [⟨2, openW.getD (nextN L (M + 1) 3).toNat ⟨#[]⟩, (id + 1 : Nat)⟩], id + 1, M + 1 + 1)) := by
            show itemL L 4 t op id (M + 1) = _
            rfl
          have HX3 := Lib.hid (fun w h => next_any' L g (M + 1) 3 w h (by omega) (by decide) (by decide))
          generalize nextN L (M + 1) 3 = z at hz HI HX3
          have hzn : ((z.toNat : Nat) : Int) = z := by omega
          go_wp2_with fail
          refine (HX3.out _ (by exact HFR.num.alloc (.cells (openW.map Value.string).toArray 9))).mono ?_
          rintro e w5 ⟨rfl, hb5, hn5⟩
          have q := words_at (xs := openW) z hz.1 hz.2 hg3 (by exact hb5)
          have HFR5 := (HFR.alloc (.cells (openW.map Value.string).toArray 9)).call hb5 hn5
          have hg5 := hn5.lt
          obtain ⟨p0, p1, p2, p3, p4, p5⟩ := box_facts HFR5.box
          generalize openW.getD z.toNat ⟨#[]⟩ = word at q HI
          clear hb5 hn5 HX3
          have hz5 := HFR5.but.size
          go_wp2_with (at_builtin; go_must (refine wpList_appAt rfl (.tmp 63) (.tmp 65) 57 84 rfl Tryd.underlying57 _ tkC 3 32 item_info rfl (by decide) tkC_three tkC_one w.heap.size _ op rfl (by exact ((HFR5.set3 ⟨2, word, (id : Int) + 1⟩).alloc _).ownO) _ [⟨2, word, (id : Int) + 1⟩] rfl (by exact RdT.one_at _ _ (set3_size _ _ _) ⟨2, word, (id : Int) + 1⟩ _) (by rw [List.length_singleton]; omega) (by decide) (by simp [World.setCell]; omega) ?_); intro v6 w6 hown6 hbel6 hgr6 hat6; obtain ⟨A6, d6, hv6⟩ := own_shape hown6; subst hv6; have HO6 := Lib.hid hown6; have HG6 := Lib.hid hgr6; have HA6 := Lib.hid hat6; clear hown6 hbel6 hgr6 hat6)
          go_meet
          have e6 : (op ++ [(⟨2, word, (id : Int) + 1⟩ : Tk)]).length = op.length + 1 := by simp
          have HF6 := ((HFR5.set3 ⟨2, word, (id : Int) + 1⟩).alloc _).push HO6.out HG6.out HA6.out
          rw [e6] at HF6
          have HI6 : Hid (itemL L 4 t op id (M + 1) = (⟨2, word, (id : Int) + 1⟩, op ++ [⟨2, word, (id : Int) + 1⟩], id + 1, M + 1 + 1)) := HI.out
          exact ⟨⟨2, word, (id : Int) + 1⟩, op ++ [⟨2, word, (id : Int) + 1⟩], id + 1, M + 1 + 1, by go_num, HI6, HF6⟩
        · by_cases hop0 : 0 < op.length
          · have hz := nextN_bd L (M + 1) (op.length : Int) (by omega)
            have HI : Hid (itemL L 5 t op id (M + 1) = (⟨3, nameB (op.getD (nextN L (M + 1) op.length).toNat ⟨0, ⟨#[]⟩, 0⟩).t, (op.getD (nextN L (M + 1) op.length).toNat ⟨0, ⟨#[]⟩, 0⟩).d⟩, op.take (nextN L (M + 1) op.length).toNat ++ op.drop ((nextN L (M + 1) op.length).toNat + 1), id, M + 1 + 1)) := by
              show itemL L 5 t op id (M + 1) = _
              unfold itemL
              rw [if_neg (by decide), if_neg (by decide), if_neg (by decide), if_pos (by decide), if_pos hop0]
            have HXK := Lib.hid (fun w h => next_any' L g (M + 1) op.length w h (by omega) (by omega) (by omega))
            generalize nextN L (M + 1) op.length = z at hz HI HXK
            obtain ⟨k, rfl⟩ : ∃ k : Nat, z = (k : Int) := ⟨z.toNat, by omega⟩
            rw [Int.toNat_natCast] at HI
            have hk : k < op.length := by omega
            have hk' : (k : Int) < (op.length : Int) := by omega
            obtain ⟨g2, c2, hv2, hg2'⟩ := own_some HFR.ownO hop0
            injection hv2 with hA2 _ hd2
            subst hA2 hd2
            go_wp2_with fail
            refine (HXK.out _ HFR.num).mono ?_
            rintro e w5 ⟨rfl, hb5, hn5⟩
            have HFR5 := HFR.call hb5 hn5
            have hg5 := hn5.lt
            obtain ⟨p0, p1, p2, p3, p4, p5⟩ := box_facts HFR5.box
            obtain ⟨b', o', hA', hbl', r1, r2, r3⟩ := RdT.at_ (OwnE.rd tkC_three HFR5.ownO) k hk
            injection hA' with hA'
            injection hA' with e1 e2 _
            subst e1 e2
            rw [Nat.zero_add] at r1 r2 r3
            have hsz := HS5.out op[k] (List.getElem_mem hk)
            have HG5 : Hid (op.getD k ⟨0, ⟨#[]⟩, 0⟩ = op[k]) := by
              show op.getD k ⟨0, ⟨#[]⟩, 0⟩ = op[k]
              rw [List.getD_eq_getElem?_getD, List.getElem?_eq_getElem hk, Option.getD_some]
            rw [HG5.out] at HI
            generalize op[k] = y at r1 r2 r3 hsz HI
            have HNM := fun w => name_any y.t w (by omega)
            have HNMH := Lib.hid HNM
            clear hb5 hn5 HXK HNM HG5
            go_wp2_with fail
            go_region_with ((go_at_call 70; refine (HNMH.out _).mono ?_; rintro e w' ⟨rfl, rfl⟩))
            all_goals
              clear r1 r2 r3 p0 p1 p2 p3 p4 p5 HNMH
              have HFR6 := (HFR5.set3 ⟨3, nameB y.t, y.d⟩).drew
              have ewr : IntKind.i64.wrap ((k : Int) + 1) = (k : Int) + 1 := by rw [IntKind.wrap_i64]; omega
              have hp0 : (0 : Int) ≤ (k : Int) + 1 := by omega
              have hp1 : (k : Int) + 1 ≤ (op.length : Int) := by omega
              have hp2 : ((k : Int) + 1).toNat = k + 1 := by omega
              have hcc := RdE.cap (OwnE.rd tkC_three HFR6.ownO)
              have hkc : k ≤ d2 := by omega
              have HFR7 := HFR6.drew
              have hrd := OwnE.rd tkC_three HFR7.ownO
              have S1 := Lib.hid (hrd.take k (by omega))
              obtain ⟨A, hA, hrd2⟩ : ∃ A : Option Addr, (if d2 = k + 1 then some (⟨g2, 0, none⟩ : Addr) else some ⟨g2, (k + 1) * 3, none⟩) = A ∧ Hid (RdT ((((w5.setCell ⟨w2.heap.size, 0, none⟩ (.int .i64 3)).setCell ⟨w2.heap.size, 1, none⟩ (.string (nameB y.t))).setCell ⟨w2.heap.size, 2, none⟩ (.int .i64 y.d)).drew.drew) (.slice A (op.length - (k + 1)) (d2 - (k + 1))) (op.drop (k + 1))) := by
                refine ⟨_, rfl, show RdT _ _ _ from hrd.drop (k + 1) (by omega) _ (fun h => ?_) (fun h => ?_)⟩
                · rw [if_neg (by omega), Nat.zero_add]
                · split at h <;> cases h
              have HZ7 := HFR7.but.size
              have HFA := Lib.hid HFR7
              have t1 : (op.take k).length = k := by rw [List.length_take]; omega
              have t2 : (op.drop (k + 1)).length = op.length - (k + 1) := List.length_drop
              have T1 := Lib.hid t1
              have T2 := Lib.hid t2
              clear hrd HFR5 HFR6 HFR7 HFR t1 t2
              go_wp2_with fail
              go_region_law (first
                | (refine step_appE rfl (.const (.slice none 0 0)) (.tmp 95) 57 84 rfl Tryd.underlying57 _ tkC 3 32 item_info rfl (by decide) tkC_three tkC_one _ (.slice none 0 0) [] rfl (by exact OwnE.nil) (.slice (some ⟨g2, 0, none⟩) k d2) (op.take k) (by simp [Act.eval, Act.put]) (by exact S1.out) (by rw [T1.out]; simp; omega) (by decide) (Nat.le_refl _) ?_
                   intro v7 w7 hown7 hbel7 hgr7 _
                   rw [List.nil_append] at hown7
                   have HO7 := Lib.hid hown7
                   have HB7 := Lib.hid (hbel7 _ _ (Nat.le_refl _) (Below.refl _ _))
                   have hz7 := HB7.out.size
                   clear hown7 hbel7 hgr7)
                | (refine step_appE rfl (.tmp 96) (.tmp 100) 57 84 rfl Tryd.underlying57 _ tkC 3 32 item_info rfl (by decide) tkC_three tkC_one _ v7 (op.take k) (by simp [Act.eval]) (by exact HO7.out) (.slice A (op.length - (k + 1)) (d2 - (k + 1))) (op.drop (k + 1)) (by simp [Act.eval]) (by exact RdE.below hrd2.out HB7.out (Nat.le_refl _)) (by rw [T1.out, T2.out]; omega) (by decide) hz7 ?_
                   intro v8 w8 hown8 hbel8 hgr8 _
                   have HO8 := Lib.hid hown8
                   have HB8 := Lib.hid (hbel8 _ _ (Nat.le_refl _) HB7.out)
                   clear hown8 hbel8 hgr8))
              go_wp2_with fail
              go_meet
              exact ⟨⟨3, nameB y.t, y.d⟩, op.take k ++ op.drop (k + 1), id, M + 1 + 1, rfl, HI.out, HFA.out.fresh HB8.out HO8.out⟩
          · obtain rfl : op = [] := List.eq_nil_of_length_eq_zero (by omega)
            obtain ⟨p0, p1, p2, p3, p4, p5⟩ := box_facts HFR.box
            go_wp2_with fail
            go_meet
            exact ⟨⟨3, ⟨#[98]⟩, ((id + 1 : Nat) : Int)⟩, [], id + 1, M + 1, by go_num, rfl, HFR.set3 ⟨3, ⟨#[98]⟩, ((id + 1 : Nat) : Int)⟩⟩
        · by_cases hop0 : 0 < op.length
          · have hz := nextN_bd L (M + 1) (op.length : Int) (by omega)
            have HI : Hid (itemL L 6 t op id (M + 1) = (⟨3, nameB (op.getD (nextN L (M + 1) op.length).toNat ⟨0, ⟨#[]⟩, 0⟩).t, (op.getD (nextN L (M + 1) op.length).toNat ⟨0, ⟨#[]⟩, 0⟩).d⟩, op.take (nextN L (M + 1) op.length).toNat ++ op.drop ((nextN L (M + 1) op.length).toNat + 1), id, M + 1 + 1)) := by
              show itemL L 6 t op id (M + 1) = _
              unfold itemL
              rw [if_neg (by decide), if_neg (by decide), if_neg (by decide), if_pos (by decide), if_pos hop0]
            have HXK := Lib.hid (fun w h => next_any' L g (M + 1) op.length w h (by omega) (by omega) (by omega))
            generalize nextN L (M + 1) op.length = z at hz HI HXK
            obtain ⟨k, rfl⟩ : ∃ k : Nat, z = (k : Int) := ⟨z.toNat, by omega⟩
            rw [Int.toNat_natCast] at HI
            have hk : k < op.length := by omega
            have hk' : (k : Int) < (op.length : Int) := by omega
            obtain ⟨g2, c2, hv2, hg2'⟩ := own_some HFR.ownO hop0
            injection hv2 with hA2 _ hd2
            subst hA2 hd2
            go_wp2_with fail
            refine (HXK.out _ HFR.num).mono ?_
            rintro e w5 ⟨rfl, hb5, hn5⟩
            have HFR5 := HFR.call hb5 hn5
            have hg5 := hn5.lt
            obtain ⟨p0, p1, p2, p3, p4, p5⟩ := box_facts HFR5.box
            obtain ⟨b', o', hA', hbl', r1, r2, r3⟩ := RdT.at_ (OwnE.rd tkC_three HFR5.ownO) k hk
            injection hA' with hA'
            injection hA' with e1 e2 _
            subst e1 e2
            rw [Nat.zero_add] at r1 r2 r3
            have hsz := HS5.out op[k] (List.getElem_mem hk)
            have HG5 : Hid (op.getD k ⟨0, ⟨#[]⟩, 0⟩ = op[k]) := by
              show op.getD k ⟨0, ⟨#[]⟩, 0⟩ = op[k]
              rw [List.getD_eq_getElem?_getD, List.getElem?_eq_getElem hk, Option.getD_some]
            rw [HG5.out] at HI
            generalize op[k] = y at r1 r2 r3 hsz HI
            have HNM := fun w => name_any y.t w (by omega)
            have HNMH := Lib.hid HNM
            clear hb5 hn5 HXK HNM HG5
            go_wp2_with fail
            go_region_with ((go_at_call 70; refine (HNMH.out _).mono ?_; rintro e w' ⟨rfl, rfl⟩))
            all_goals
              clear r1 r2 r3 p0 p1 p2 p3 p4 p5 HNMH
              have HFR6 := (HFR5.set3 ⟨3, nameB y.t, y.d⟩).drew
              have ewr : IntKind.i64.wrap ((k : Int) + 1) = (k : Int) + 1 := by rw [IntKind.wrap_i64]; omega
              have hp0 : (0 : Int) ≤ (k : Int) + 1 := by omega
              have hp1 : (k : Int) + 1 ≤ (op.length : Int) := by omega
              have hp2 : ((k : Int) + 1).toNat = k + 1 := by omega
              have hcc := RdE.cap (OwnE.rd tkC_three HFR6.ownO)
              have hkc : k ≤ d2 := by omega
              have HFR7 := HFR6.drew
              have hrd := OwnE.rd tkC_three HFR7.ownO
              have S1 := Lib.hid (hrd.take k (by omega))
              obtain ⟨A, hA, hrd2⟩ : ∃ A : Option Addr, (if d2 = k + 1 then some (⟨g2, 0, none⟩ : Addr) else some ⟨g2, (k + 1) * 3, none⟩) = A ∧ Hid (RdT ((((w5.setCell ⟨w2.heap.size, 0, none⟩ (.int .i64 3)).setCell ⟨w2.heap.size, 1, none⟩ (.string (nameB y.t))).setCell ⟨w2.heap.size, 2, none⟩ (.int .i64 y.d)).drew.drew) (.slice A (op.length - (k + 1)) (d2 - (k + 1))) (op.drop (k + 1))) := by
                refine ⟨_, rfl, show RdT _ _ _ from hrd.drop (k + 1) (by omega) _ (fun h => ?_) (fun h => ?_)⟩
                · rw [if_neg (by omega), Nat.zero_add]
                · split at h <;> cases h
              have HZ7 := HFR7.but.size
              have HFA := Lib.hid HFR7
              have t1 : (op.take k).length = k := by rw [List.length_take]; omega
              have t2 : (op.drop (k + 1)).length = op.length - (k + 1) := List.length_drop
              have T1 := Lib.hid t1
              have T2 := Lib.hid t2
              clear hrd HFR5 HFR6 HFR7 HFR t1 t2
              go_wp2_with fail
              go_region_law (first
                | (refine step_appE rfl (.const (.slice none 0 0)) (.tmp 95) 57 84 rfl Tryd.underlying57 _ tkC 3 32 item_info rfl (by decide) tkC_three tkC_one _ (.slice none 0 0) [] rfl (by exact OwnE.nil) (.slice (some ⟨g2, 0, none⟩) k d2) (op.take k) (by simp [Act.eval, Act.put]) (by exact S1.out) (by rw [T1.out]; simp; omega) (by decide) (Nat.le_refl _) ?_
                   intro v7 w7 hown7 hbel7 hgr7 _
                   rw [List.nil_append] at hown7
                   have HO7 := Lib.hid hown7
                   have HB7 := Lib.hid (hbel7 _ _ (Nat.le_refl _) (Below.refl _ _))
                   have hz7 := HB7.out.size
                   clear hown7 hbel7 hgr7)
                | (refine step_appE rfl (.tmp 96) (.tmp 100) 57 84 rfl Tryd.underlying57 _ tkC 3 32 item_info rfl (by decide) tkC_three tkC_one _ v7 (op.take k) (by simp [Act.eval]) (by exact HO7.out) (.slice A (op.length - (k + 1)) (d2 - (k + 1))) (op.drop (k + 1)) (by simp [Act.eval]) (by exact RdE.below hrd2.out HB7.out (Nat.le_refl _)) (by rw [T1.out, T2.out]; omega) (by decide) hz7 ?_
                   intro v8 w8 hown8 hbel8 hgr8 _
                   have HO8 := Lib.hid hown8
                   have HB8 := Lib.hid (hbel8 _ _ (Nat.le_refl _) HB7.out)
                   clear hown8 hbel8 hgr8))
              go_wp2_with fail
              go_meet
              exact ⟨⟨3, nameB y.t, y.d⟩, op.take k ++ op.drop (k + 1), id, M + 1 + 1, rfl, HI.out, HFA.out.fresh HB8.out HO8.out⟩
          · obtain rfl : op = [] := List.eq_nil_of_length_eq_zero (by omega)
            obtain ⟨p0, p1, p2, p3, p4, p5⟩ := box_facts HFR.box
            go_wp2_with fail
            go_meet
            exact ⟨⟨3, ⟨#[98]⟩, ((id + 1 : Nat) : Int)⟩, [], id + 1, M + 1, by go_num, rfl, HFR.set3 ⟨3, ⟨#[98]⟩, ((id + 1 : Nat) : Int)⟩⟩
        · go_wp2_with fail
          go_meet
          exact ⟨⟨1, t, 0⟩, op, id, M + 1, rfl, rfl, HFR⟩
      case rest =>
        obtain ⟨x, op', id', M', rfl, HXI, HX⟩ := hcut
        have hG := HGG.out
        have hO := HOK.out
        rw [HXI.out] at hG hO
        have HGX := Lib.hid hG
        have HOX := Lib.hid hO
        obtain ⟨q1, _⟩ := item_ok L c t op id (M + 1) r hl.1 hop HS5.out hid x op' id' M' HXI.out
        obtain ⟨p0, p1, p2, _⟩ := box_facts HX.box
        clear hG hO HGG HOK
        go_wp2_with fail
        refine (rconcat_any f [x] _ _ _ (by exact (OwnE.rd tkC_three HX.own).alloc _) (by exact RdT.one_at _ _ rfl x _) (by rw [List.length_singleton]; omega) (by rw [bytesOf_one]; omega)).mono ?_
        rintro e w9 ⟨v9, rfl, hown9, hb9⟩; have HO9 := Lib.hid hown9; have HB9 := Lib.hid (((Below.refl wc.heap.size wc).alloc (Nat.le_refl _) _).trans (hb9.mono (by simp))); clear hown9 hb9
        go_wp2_with fail
        have hzx := HX.but.size
        have hz9 : (wc.alloc (.cells (tkC x).toArray 84)).heap.size = wc.heap.size + 1 := by simp
        refine ⟨⟨⟨normL (f ++ [x]), op', id', M'⟩, i, r + 1, rfl, by go_num, by omega, HOX.out, own_base HO9.out ?_, own_same HX.ownO fun k hk => HB9.out.block k (HX.ownO.lt k hk).2, fun k hk e => ?_, HX.but.trans (But.of_below HB9.out), HX.num.keepg fun k hk => HB9.out.block k (by omega), HGX.out⟩, by simp [intOf]; try omega⟩
        · show w.heap.size ≤ (wc.alloc (.cells (tkC x).toArray 84)).heap.size
          omega
        · have h1 : (wc.alloc (.cells (tkC x).toArray 84)).heap.size ≤ k := (HO9.out.lt k hk).1
          have h2 := (HX.ownO.lt k e).2
          omega

end Go.Proofs.YtpboaadjbkaidaaDoor
