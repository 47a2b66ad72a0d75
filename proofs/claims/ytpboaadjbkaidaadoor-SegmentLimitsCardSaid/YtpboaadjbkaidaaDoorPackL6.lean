/-
  Contracts and plain laws that this claim leans on, part 6.
-/
import Derived.Test.YtpboaadjbkaidaaDoorPackL5
import Derived.Test.YtpboaadjbkaidaaDoorPackL4
import Derived.Test.YtpboaadjbkaidaaDoorPackL2
import Derived.ChangeKeysEq
import Derived.Laws.StructEq
import Derived.Maps.Own
import Derived.Maps.OwnOps
import Derived.Maps.Views
set_option linter.unusedVariables false
set_option linter.unusedSimpArgs false
namespace Go.Proofs.YtpboaadjbkaidaaDoor
set_option maxRecDepth 100000
open Go.RowKit

set_option maxRecDepth 100000 in
set_option maxHeartbeats 8000000 in
theorem rtable_any (B : Nat) (w : World) (v wv : Value) (ts : List Tb) (xs : List TbV) (rv : Sl) (ys : List RuV) (a : ByteArray) (ws2 : List ByteArray) (ha : a.data.toList = wTable) (ht : TS 46 30 B w v ts xs rv ys) (hw : RdE strC 1 w wv (a :: ws2)) (hB : B ≤ w.heap.size) (hl : ts.length ≤ 16) (hws : ∀ s ∈ a :: ws2, s.size ≤ 2147483648) :
    Calls Tryd.prog 57 #[v, wv] w (RetTab B w (tableF ts ((a :: ws2).map fun s => s.data.toList))) := by
  obtain ⟨R, HRR⟩ : ∃ R, Hid (R = RetTab B w (tableF ts ((a :: ws2).map fun s => s.data.toList))) := ⟨_, rfl⟩
  rw [← HRR.out]
  have HT := Lib.hid ht
  obtain ⟨Aw, cw, rfl, hlw, _⟩ := hw.shape
  obtain ⟨Av, cv, hv⟩ := ht.rd.shape
  obtain ⟨bb, o, rfl, hbl, hcell⟩ := hw.cells (by simp)
  have q0 := hcell 0 a 0 (.string a) rfl rfl
  rw [show o + (0 * 1 + 0) = o by omega] at q0
  have tT : (a.toList == [116, 97, 98, 108, 101]) = true := by rw [toList_eq_data, ha]; rfl
  subst hv
  by_cases h23 : (a :: ws2).length ≠ 2 ∧ (a :: ws2).length ≠ 3
  · have e0 : tableF ts ((a :: ws2).map fun s => s.data.toList) = ([], 2) := by unfold tableF; rw [List.length_map, if_pos h23]
    have hp : (0 : Int) < ((a :: ws2).length : Int) := by simp only [List.length_cons]; omega
    generalize (a :: ws2).length = nw at h23 hp ⊢
    have t1 : ((nw : Int) != 2) = true := bne_iff_ne.2 (by omega)
    have t2 : ((nw : Int) != 3) = true := bne_iff_ne.2 (by omega)
    go_enter Tryd.func57, Tryd.ntmps57
    go_wp2_with fail
    rw [HRR.out, e0]
    exact ⟨_, _, rfl, rfl, fun h => absurd h (by decide), Below.refl _ _⟩
  rcases (show ws2.length = 1 ∨ ws2.length = 2 by simp only [List.length_cons] at h23; omega) with h2 | h3
  · obtain ⟨b, rfl⟩ : ∃ b, ws2 = [b] := by
      match ws2, h2 with
      | [b], _ => exact ⟨b, rfl⟩
    clear h2 h23
    change Hid (R = RetTab B w (tableF ts [a.data.toList, b.data.toList])) at HRR
    have q1 := hcell 1 b 0 (.string b) rfl rfl
    rw [show o + (1 * 1 + 0) = o + 1 by omega] at q1
    have hbs : b.size ≤ maxLen := by have := hws b (by simp); unfold maxLen; omega
    have HT1 := Lib.hid (HT.out.keep (w' := w.alloc (.cells #[.string b, .string ⟨#[]⟩, .slice none 0 0] 46)) (by simp) (fun k hk => Below.heap_alloc w _ k hk))
    have HX1 : Hid ((w.alloc (.cells #[.string b, .string ⟨#[]⟩, .slice none 0 0] 46)).heap[w.heap.size]? = some (.cells #[.string b, .string ⟨#[]⟩, .slice none 0 0] 46)) := heap_alloc_new w _
    have HB1 : Hid (Below B w (w.alloc (.cells #[.string b, .string ⟨#[]⟩, .slice none 0 0] 46))) := (Below.refl B w).alloc hB _
    have hz1 : (w.alloc (.cells #[.string b, .string ⟨#[]⟩, .slice none 0 0] 46)).heap.size = w.heap.size + 1 := by simp
    go_enter Tryd.func57, Tryd.ntmps57
    go_upto_region 8 with fail
    clear hcell q1 q0
    generalize hg : w.heap.size = g at HX1 hz1 hB ⊢
    generalize w.alloc (.cells #[.string b, .string ⟨#[]⟩, .slice none 0 0] 46) = w1 at HT1 HX1 HB1 hz1 ⊢
    have p0 : w1.cell? ⟨g, 0, none⟩ = some (.string b) := by rw [cell_of_row _ _ _ _ _ _ HX1.out]; rfl
    have p1 : w1.cell? ⟨g, 1, none⟩ = some (.string ⟨#[]⟩) := by rw [cell_of_row _ _ _ _ _ _ HX1.out]; rfl
    cases hb1 : nameL b.data.toList with
    | false =>
      have e0 : tableF ts [a.data.toList, b.data.toList] = ([], 4) := by rw [table2]; rw [if_pos hb1]
      have HN1 := Lib.hid (fun w => risname_any b w hbs)
      rw [hb1] at HN1
      go_wp2_with (go_at_call_of 60 (Value.string b); refine (HN1.out _).mono ?_; rintro e w' ⟨rfl, rfl⟩)
      rw [HRR.out, e0]
      exact ⟨_, _, rfl, rfl, fun h => absurd h (by decide), HB1.out⟩
    | true =>
      have HN1 := Lib.hid (fun w => risname_any b w hbs)
      rw [hb1] at HN1
      have HRD := Lib.hid HT1.out.rd
      have HFI := Lib.hid (named_any ts _ b w1 HRD.out (by omega))
      have HFA := Lib.hid (find_any_iff ts b 0)
      go_upto_region 10 with (first | (go_at_call_of 60 (Value.string b); refine (HN1.out _).mono ?_; rintro e w' ⟨rfl, rfl⟩))
      generalize findF ts b 0 = fi at HFI HFA
      by_cases hf : 0 ≤ fi
      · have e0 : tableF ts [a.data.toList, b.data.toList] = ([], 5) := by rw [table2]; rw [if_neg (fun h => Bool.noConfusion (hb1.symm.trans h))]; rw [if_pos (HFA.out.1 hf)]
        go_wp2_with (go_at_call 61; refine HFI.out.mono ?_; rintro e w2 ⟨rfl, hb2⟩)
        rw [HRR.out, e0]
        exact ⟨_, _, rfl, rfl, fun h => absurd h (by decide), HB1.out.trans (hb2.mono (by omega))⟩
      have hfl : fi < 0 := by omega
      have hfn : ¬ ts.any (fun t => t.nm.data.toList == b.data.toList) = true := fun h => hf (HFA.out.2 h)
      by_cases h16 : 16 ≤ ts.length
      · have h16i : (16 : Int) ≤ (ts.length : Int) := by omega
        have e0 : tableF ts [a.data.toList, b.data.toList] = ([], 3) := by rw [table2]; rw [if_neg (fun h => Bool.noConfusion (hb1.symm.trans h))]; rw [if_neg hfn, if_pos h16]
        go_wp2_with (go_at_call 61; refine HFI.out.mono ?_; rintro e w2 ⟨rfl, hb2⟩)
        rw [HRR.out, e0]
        exact ⟨_, _, rfl, rfl, fun h => absurd h (by decide), HB1.out.trans (hb2.mono (by omega))⟩
      have h16i : ¬ (16 : Int) ≤ (ts.length : Int) := by omega
      have e0 : tableF ts [a.data.toList, b.data.toList] = (ts ++ [⟨b, ⟨#[]⟩, []⟩], 0) := by rw [table2]; rw [if_neg (fun h => Bool.noConfusion (hb1.symm.trans h))]; rw [if_neg hfn, if_neg h16]
      have hxl : xs.length ≤ ts.length := Nat.le_of_eq HT1.out.len
      go_upto_region 14 with (go_at_call 61; refine HFI.out.mono ?_; rintro e w2 ⟨rfl, hb2⟩)
      have HT2 := Lib.hid (HT1.out.below hb2 (Nat.le_refl _))
      have HB2 := Lib.hid (HB1.out.trans (hb2.mono (by omega)))
      have HX2 : Hid (w2.heap[g]? = some (.cells #[.string b, .string ⟨#[]⟩, .slice none 0 0] 46)) := by show _ = _; rw [hb2.block g (by omega)]; exact HX1.out
      clear hb2 HT1 HB1 HX1 p0 p1 HFI HRD
      have hz2 := HB2.out.size
      have HT3 := Lib.hid (HT2.out.keep (w' := w2.alloc (.cells #[.string b, .string ⟨#[]⟩, .slice none 0 0] 46)) (by simp) (fun k hk => Below.heap_alloc w2 _ k hk))
      have hgz : w.heap.size ≤ w2.heap.size := hz2
      have HOW : Hid ((w2.alloc (.cells #[.string b, .string ⟨#[]⟩, .slice none 0 0] 46)).ownsRow B 46 3 (.slice Av ts.length cv) xs.length (xs.flatMap tbC)) := HT3.out.own
      clear HFA hfn
      go_wp2_with (first
        | (refine wpList_load_row rfl 46 (.tmp 6) rfl (g) rfl 46 #[.string b, .string ⟨#[]⟩, .slice none 0 0] (0, 0) _ HX2.out Tryd.underlying46 rfl (by rw [table_size]; rfl) ?_)
        | (at_builtin; refine wpList_appAt rfl (.tmp 58) (.tmp 60) 39 46 rfl Tryd.underlying39 _ tbC 3 56 table_info rfl (by decide) tbC_len tbC_one B (.slice Av ts.length cv) xs rfl HOW.out (.slice (some ⟨w2.heap.size, 0, none⟩) 1 1) [⟨b, ⟨#[]⟩, ⟨none, 0, 0⟩⟩] rfl (rdE_one_at tbC 3 tbC_len w2 _ rfl ⟨b, ⟨#[]⟩, ⟨none, 0, 0⟩⟩ 46) (by simp only [List.length_singleton]; omega) (by decide) (by simp; omega) ?_; intro v9 w9 hown9 hbel9 hgrow9 hat9))
      rw [HRR.out, e0]
      exact ⟨_, _, rfl, rfl, fun _ => ⟨_, _, _, HT3.out.push b ⟨#[]⟩ hown9 hgrow9 hat9⟩, hbel9 B w (Nat.le_refl _) (HB2.out.alloc (by omega) _)⟩
  · obtain ⟨b, c, rfl⟩ : ∃ b c, ws2 = [b, c] := by
      match ws2, h3 with
      | [b, c], _ => exact ⟨b, c, rfl⟩
    clear h3 h23
    change Hid (R = RetTab B w (tableF ts [a.data.toList, b.data.toList, c.data.toList])) at HRR
    have q1 := hcell 1 b 0 (.string b) rfl rfl
    rw [show o + (1 * 1 + 0) = o + 1 by omega] at q1
    have q2 := hcell 2 c 0 (.string c) rfl rfl
    rw [show o + (2 * 1 + 0) = o + 2 by omega] at q2
    have hcs : c.size ≤ maxLen := by have := hws c (by simp); unfold maxLen; omega
    have hbw : ∀ ob : Obj, bb < (w.alloc ob).heap.size := fun ob => by simp; omega
    have hbw2 := hbw (.cells #[.string b, .string ⟨#[]⟩, .slice none 0 0] 46)
    have hbs : b.size ≤ maxLen := by have := hws b (by simp); unfold maxLen; omega
    have HT1 := Lib.hid (HT.out.keep (w' := w.alloc (.cells #[.string b, .string c, .slice none 0 0] 46)) (by simp) (fun k hk => Below.heap_alloc w _ k hk))
    have HX1 : Hid ((w.alloc (.cells #[.string b, .string c, .slice none 0 0] 46)).heap[w.heap.size]? = some (.cells #[.string b, .string c, .slice none 0 0] 46)) := heap_alloc_new w _
    have HB1 : Hid (Below B w (w.alloc (.cells #[.string b, .string c, .slice none 0 0] 46))) := (Below.refl B w).alloc hB _
    have hz1 : (w.alloc (.cells #[.string b, .string c, .slice none 0 0] 46)).heap.size = w.heap.size + 1 := by simp
    go_enter Tryd.func57, Tryd.ntmps57
    go_upto_region 8 with fail
    clear hcell q1 q2 hbw2 hbw q0
    generalize hg : w.heap.size = g at HX1 hz1 hB ⊢
    generalize w.alloc (.cells #[.string b, .string c, .slice none 0 0] 46) = w1 at HT1 HX1 HB1 hz1 ⊢
    have p0 : w1.cell? ⟨g, 0, none⟩ = some (.string b) := by rw [cell_of_row _ _ _ _ _ _ HX1.out]; rfl
    have p1 : w1.cell? ⟨g, 1, none⟩ = some (.string c) := by rw [cell_of_row _ _ _ _ _ _ HX1.out]; rfl
    cases hb1 : nameL b.data.toList with
    | false =>
      have e0 : tableF ts [a.data.toList, b.data.toList, c.data.toList] = ([], 4) := by rw [table3]; rw [if_pos (.inl hb1)]
      have HN1 := Lib.hid (fun w => risname_any b w hbs)
      rw [hb1] at HN1
      go_wp2_with (go_at_call_of 60 (Value.string b); refine (HN1.out _).mono ?_; rintro e w' ⟨rfl, rfl⟩)
      rw [HRR.out, e0]
      exact ⟨_, _, rfl, rfl, fun h => absurd h (by decide), HB1.out⟩
    | true =>
      have HN1 := Lib.hid (fun w => risname_any b w hbs)
      rw [hb1] at HN1
      cases hc1 : nameL c.data.toList with
      | false =>
        have e0 : tableF ts [a.data.toList, b.data.toList, c.data.toList] = ([], 4) := by rw [table3]; rw [if_pos (.inr hc1)]
        have HN2 := Lib.hid (fun w => risname_any c w hcs)
        rw [hc1] at HN2
        go_wp2_with (first | (go_at_call_of 60 (Value.string b); refine (HN1.out _).mono ?_; rintro e w' ⟨rfl, rfl⟩) | (go_at_call_of 60 (Value.string c); refine (HN2.out _).mono ?_; rintro e w' ⟨rfl, rfl⟩))
        rw [HRR.out, e0]
        exact ⟨_, _, rfl, rfl, fun h => absurd h (by decide), HB1.out⟩
      | true =>
        have HN2 := Lib.hid (fun w => risname_any c w hcs)
        rw [hc1] at HN2
        have HRD := Lib.hid HT1.out.rd
        have HFI := Lib.hid (named_any ts _ b w1 HRD.out (by omega))
        have HFA := Lib.hid (find_any_iff ts b 0)
        go_upto_region 10 with (first | (go_at_call_of 60 (Value.string b); refine (HN1.out _).mono ?_; rintro e w' ⟨rfl, rfl⟩) | (go_at_call_of 60 (Value.string c); refine (HN2.out _).mono ?_; rintro e w' ⟨rfl, rfl⟩))
        generalize findF ts b 0 = fi at HFI HFA
        by_cases hf : 0 ≤ fi
        · have e0 : tableF ts [a.data.toList, b.data.toList, c.data.toList] = ([], 5) := by rw [table3]; rw [if_neg (by rintro (h | h); exact Bool.noConfusion (hb1.symm.trans h); exact Bool.noConfusion (hc1.symm.trans h))]; rw [if_pos (HFA.out.1 hf)]
          go_wp2_with (go_at_call 61; refine HFI.out.mono ?_; rintro e w2 ⟨rfl, hb2⟩)
          rw [HRR.out, e0]
          exact ⟨_, _, rfl, rfl, fun h => absurd h (by decide), HB1.out.trans (hb2.mono (by omega))⟩
        have hfl : fi < 0 := by omega
        have hfn : ¬ ts.any (fun t => t.nm.data.toList == b.data.toList) = true := fun h => hf (HFA.out.2 h)
        by_cases h16 : 16 ≤ ts.length
        · have h16i : (16 : Int) ≤ (ts.length : Int) := by omega
          have e0 : tableF ts [a.data.toList, b.data.toList, c.data.toList] = ([], 3) := by rw [table3]; rw [if_neg (by rintro (h | h); exact Bool.noConfusion (hb1.symm.trans h); exact Bool.noConfusion (hc1.symm.trans h))]; rw [if_neg hfn, if_pos h16]
          go_wp2_with (go_at_call 61; refine HFI.out.mono ?_; rintro e w2 ⟨rfl, hb2⟩)
          rw [HRR.out, e0]
          exact ⟨_, _, rfl, rfl, fun h => absurd h (by decide), HB1.out.trans (hb2.mono (by omega))⟩
        have h16i : ¬ (16 : Int) ≤ (ts.length : Int) := by omega
        have e0 : tableF ts [a.data.toList, b.data.toList, c.data.toList] = (ts ++ [⟨b, c, []⟩], 0) := by rw [table3]; rw [if_neg (by rintro (h | h); exact Bool.noConfusion (hb1.symm.trans h); exact Bool.noConfusion (hc1.symm.trans h))]; rw [if_neg hfn, if_neg h16]
        have hxl : xs.length ≤ ts.length := Nat.le_of_eq HT1.out.len
        go_upto_region 14 with (go_at_call 61; refine HFI.out.mono ?_; rintro e w2 ⟨rfl, hb2⟩)
        have HT2 := Lib.hid (HT1.out.below hb2 (Nat.le_refl _))
        have HB2 := Lib.hid (HB1.out.trans (hb2.mono (by omega)))
        have HX2 : Hid (w2.heap[g]? = some (.cells #[.string b, .string c, .slice none 0 0] 46)) := by show _ = _; rw [hb2.block g (by omega)]; exact HX1.out
        clear hb2 HT1 HB1 HX1 p0 p1 HFI HRD
        have hz2 := HB2.out.size
        have HT3 := Lib.hid (HT2.out.keep (w' := w2.alloc (.cells #[.string b, .string c, .slice none 0 0] 46)) (by simp) (fun k hk => Below.heap_alloc w2 _ k hk))
        have hgz : w.heap.size ≤ w2.heap.size := hz2
        have HOW : Hid ((w2.alloc (.cells #[.string b, .string c, .slice none 0 0] 46)).ownsRow B 46 3 (.slice Av ts.length cv) xs.length (xs.flatMap tbC)) := HT3.out.own
        clear HFA hfn
        go_wp2_with (first
          | (refine wpList_load_row rfl 46 (.tmp 6) rfl (g) rfl 46 #[.string b, .string c, .slice none 0 0] (0, 0) _ HX2.out Tryd.underlying46 rfl (by rw [table_size]; rfl) ?_)
          | (at_builtin; refine wpList_appAt rfl (.tmp 58) (.tmp 60) 39 46 rfl Tryd.underlying39 _ tbC 3 56 table_info rfl (by decide) tbC_len tbC_one B (.slice Av ts.length cv) xs rfl HOW.out (.slice (some ⟨w2.heap.size, 0, none⟩) 1 1) [⟨b, c, ⟨none, 0, 0⟩⟩] rfl (rdE_one_at tbC 3 tbC_len w2 _ rfl ⟨b, c, ⟨none, 0, 0⟩⟩ 46) (by simp only [List.length_singleton]; omega) (by decide) (by simp; omega) ?_; intro v9 w9 hown9 hbel9 hgrow9 hat9))
        rw [HRR.out, e0]
        exact ⟨_, _, rfl, rfl, fun _ => ⟨_, _, _, HT3.out.push b c hown9 hgrow9 hat9⟩, hbel9 B w (Nat.le_refl _) (HB2.out.alloc (by omega) _)⟩

set_option maxRecDepth 100000 in
set_option maxHeartbeats 8000000 in
theorem rrule_any_true (B : Nat) (w : World) (v wv : Value) (ts : List Tb) (xs : List TbV) (rv : Sl) (ys : List RuV) (a : ByteArray) (ws2 : List ByteArray) (ha : a.data.toList = wBreak) (ht : TS 46 30 B w v ts xs rv ys) (hw : RdE strC 1 w wv (a :: ws2)) (hB : B ≤ w.heap.size) (hl : ts.length ≤ 16) (hws : ∀ s ∈ a :: ws2, s.size ≤ 2147483648) :
    Calls Tryd.prog 57 #[v, wv] w (RetTab B w (ruleF ts ((a :: ws2).map fun s => s.data.toList))) := by
  obtain ⟨R, HRR⟩ : ∃ R, Hid (R = RetTab B w (ruleF ts ((a :: ws2).map fun s => s.data.toList))) := ⟨_, rfl⟩
  rw [← HRR.out]
  have HT := Lib.hid ht
  obtain ⟨Aw, cw, rfl, hlw, _⟩ := hw.shape
  obtain ⟨Av, cv, hv⟩ := ht.rd.shape
  obtain ⟨bb, o, rfl, hbl, hcell⟩ := hw.cells (by simp)
  have q0 := hcell 0 a 0 (.string a) rfl rfl
  rw [show o + (0 * 1 + 0) = o by omega] at q0
  have tT : (a.toList == [116, 97, 98, 108, 101]) = false := by rw [toList_eq_data, ha]; rfl
  have tB : (a.toList == [98, 114, 101, 97, 107]) = true := by rw [toList_eq_data, ha]; rfl
  by_cases h3 : (a :: ws2).length ≠ 3
  · have e0 : ruleF ts ((a :: ws2).map fun s => s.data.toList) = ([], 2) := by unfold ruleF; rw [List.length_map, if_pos h3]
    have hp : (0 : Int) < ((a :: ws2).length : Int) := by simp only [List.length_cons]; omega
    generalize (a :: ws2).length = nw at h3 hp ⊢
    have t2 : ((nw : Int) != 3) = true := bne_iff_ne.2 (by omega)
    subst hv
    go_enter Tryd.func57, Tryd.ntmps57
    go_wp2_with fail
    rw [HRR.out, e0]
    exact ⟨_, _, rfl, rfl, fun h => absurd h (by decide), Below.refl _ _⟩
  obtain ⟨b, c, rfl⟩ : ∃ b c, ws2 = [b, c] := by
    match ws2, (show ws2.length = 2 by simp only [List.length_cons] at h3; omega) with
    | [b, c], _ => exact ⟨b, c, rfl⟩
  clear h3
  change Hid (R = RetTab B w (ruleF ts [a.data.toList, b.data.toList, c.data.toList])) at HRR
  by_cases h0 : ts.length = 0
  · obtain rfl : ts = [] := List.eq_nil_of_length_eq_zero h0
    have e0 : ruleF [] [a.data.toList, b.data.toList, c.data.toList] = ([], 8) := rfl
    subst hv
    go_enter Tryd.func57, Tryd.ntmps57
    go_wp2_with fail
    rw [HRR.out, e0]
    exact ⟨_, _, rfl, rfl, fun h => absurd h (by decide), Below.refl _ _⟩
  obtain ⟨n, hn⟩ : ∃ n, ts.length = n + 1 := ⟨ts.length - 1, by omega⟩
  obtain ⟨gT, cT, hvT, hBT⟩ := own_some ht.own (by rw [ht.len]; omega)
  rw [ht.len, hn] at hvT
  rw [hv] at hvT
  have q1 := hcell 1 b 0 (.string b) rfl rfl
  rw [show o + (1 * 1 + 0) = o + 1 by omega] at q1
  have q2 := hcell 2 c 0 (.string c) rfl rfl
  rw [show o + (2 * 1 + 0) = o + 2 by omega] at q2
  clear hcell
  have HS1 := Lib.hid (fun w => rside_any b w (hws b (by simp)))
  have HS2 := Lib.hid (fun w => rside_any c w (hws c (by simp)))
  have HE : Hid (ruleF ts [a.data.toList, b.data.toList, c.data.toList] = if (sideF b.data.toList).2 ≠ 0 then ([], (sideF b.data.toList).2) else if (sideF c.data.toList).2 ≠ 0 then ([], (sideF c.data.toList).2) else if 32 ≤ ((ts.getLast?.map (·.rs)).getD []).length then ([], 3) else (addLast ts ⟨true, (sideF b.data.toList).1, (sideF c.data.toList).1⟩, 0)) := by
    show _ = _
    have h := rule3 ts a b c (fun e => h0 (by rw [e]; rfl))
    rw [show (a.data.toList == wBreak) = true by rw [ha]; rfl] at h
    exact h
  generalize ruleF ts [a.data.toList, b.data.toList, c.data.toList] = rr at HE HRR
  generalize hs1 : sideF b.data.toList = s1 at HE
  generalize hs2 : sideF c.data.toList = s2 at HE
  obtain ⟨p1, x1⟩ := s1
  obtain ⟨p2, x2⟩ := s2
  unfold RetSide at HS1 HS2
  rw [hs1] at HS1
  rw [hs2] at HS2
  simp only at HS1 HS2 HE
  clear hs1 hs2
  rw [hn] at hv
  have hAT : Av = some ⟨gT, 0, none⟩ ∧ cv = cT := by injection hvT with e1 _ e2; exact ⟨e1, e2⟩
  obtain ⟨rfl, rfl⟩ := hAT
  clear hvT ha
  have hgT : gT < w.heap.size := (ht.own.lt gT (by rw [hv]; rfl)).2
  subst hv
  have hn1 : (((n + 1 : Nat) : Int) == 0) = false := beq_eq_false_iff_ne.2 (by omega)
  go_enter Tryd.func57, Tryd.ntmps57
  go_upto_region 23 with (go_at_call 89; refine (HS1.out _).mono ?_; rintro e w2 ⟨v1, y1, rfl, hy1, ho1, hb2⟩; subst hy1; obtain ⟨A1, c1, hv1⟩ := own_shape ho1; subst hv1)
  have HB2 := Lib.hid hb2
  have HO2 := Lib.hid ho1
  have r2 : w2.cell? ⟨bb, o + 2, none⟩ = some (.string c) := (hb2.cell (p := ⟨bb, o + 2, none⟩) hbl).trans q2
  have r0 : w2.cell? ⟨bb, o, none⟩ = some (.string a) := (hb2.cell (p := ⟨bb, o, none⟩) hbl).trans q0
  have hz2 := hb2.size
  clear q0 q1 q2 hb2 ho1 HS1
  by_cases hx1 : y1 ≠ 0
  · have t1 : (y1 != 0) = true := bne_iff_ne.2 hx1
    go_wp2_with fail
    rw [HRR.out, HE.out, if_pos hx1]
    exact ⟨_, _, rfl, rfl, fun h => absurd h hx1, HB2.out.mono hB⟩
  have t1 : (y1 != 0) = false := by simpa using hx1
  go_upto_region 26 with (go_at_call 89; refine (HS2.out _).mono ?_; rintro e w4 ⟨v2, y2, rfl, hy2, ho2, hb4⟩; subst hy2; obtain ⟨A2, c2, hv2⟩ := own_shape ho2; subst hv2)
  have HB4 := Lib.hid (HB2.out.trans (hb4.mono hz2))
  have HO4 : Hid (OwnE 26 atC 34 w4 w.heap.size (.slice A1 p1.length c1) p1) := Lib.hid (own_below HO2.out hb4 (Nat.le_refl _))
  have HP4 := Lib.hid ho2
  have s0 : w4.cell? ⟨bb, o, none⟩ = some (.string a) := (hb4.cell (p := ⟨bb, o, none⟩) (Nat.lt_of_lt_of_le hbl hz2)).trans r0
  have hb44 : bb < w4.heap.size := Nat.lt_of_lt_of_le hbl HB4.out.size
  have hz4 := hb4.size
  clear r0 r2 hb4 ho2 HS2 HO2
  by_cases hx2 : y2 ≠ 0
  · have t2 : (y2 != 0) = true := bne_iff_ne.2 hx2
    go_wp2_with fail
    rw [HRR.out, HE.out, if_neg hx1, if_pos hx2]
    exact ⟨_, _, rfl, rfl, fun h => absurd h hx2, HB4.out.mono hB⟩
  have t2 : (y2 != 0) = false := by simpa using hx2
  have HT5 := Lib.hid (HT.out.below HB4.out (Nat.le_refl _))
  obtain ⟨rA, rn, rc⟩ := rv
  obtain ⟨Ar, cr, hr⟩ := own_shape HT5.out.rown
  have hrn : rn = ys.length := by unfold Sl.v at hr; injection hr
  subst hrn
  have hxn : n < xs.length := by have := HT.out.len; omega
  have htn : n < ts.length := by omega
  have hxg : xs[n]? = some xs[n] := List.getElem?_eq_getElem hxn
  have htg : ts[n]? = some ts[n] := List.getElem?_eq_getElem htn
  obtain ⟨hxr, hyl, _⟩ := HT5.out.last n _ _ hxg htg (by omega)
  have hlast : ((ts.getLast?.map (·.rs)).getD []).length = ys.length := by
    rw [List.getLast?_eq_getElem?, hn, show n + 1 - 1 = n by omega, htg, hyl]
    rfl
  rw [hlast, if_neg hx1, if_neg hx2] at HE
  clear hyl hlast
  have HQ : Hid (w4.cell? ⟨gT, n * 3 + 2, none⟩ = some (.slice rA ys.length rc)) := by
    show _ = _
    have h := HT5.out.own
    unfold OwnE at h
    have hxl : xs.length = n + 1 := by rw [HT.out.len, hn]
    rw [hxl] at h
    rw [h.cellAt (n * 3 + 2) (by omega), flat_get tbC 3 tbC_len xs n 2 _ hxg (by omega)]
    show some xs[n].r.v = _
    rw [hxr]
    rfl
  have HF : Hid (w4.frozen? ⟨gT, n * 3 + 2, none⟩ = false) := by
    have h := HT5.out.own
    unfold OwnE at h
    have hxl : xs.length = n + 1 := by rw [HT.out.len, hn]
    rw [hxl] at h
    exact h.frozenAt (n * 3 + 2)
  have qT := HQ.out
  have hT5 : gT < w4.heap.size := Nat.lt_of_lt_of_le hgT HB4.out.size
  have hn0 : (0 : Int) ≤ (n : Int) := by omega
  by_cases h32 : 32 ≤ ys.length
  · have h32i : (32 : Int) ≤ (ys.length : Int) := by omega
    go_wp2_with fail
    rw [HRR.out, HE.out, if_pos h32]
    exact ⟨_, _, rfl, rfl, fun h => absurd h (by decide), HB4.out.mono hB⟩
  have h32i : ¬ (32 : Int) ≤ (ys.length : Int) := by omega
  rw [if_neg h32] at HE
  have hTR : (Value.slice rA ys.length rc).ownBlock ≠ some gT := HT.out.apart gT rfl
  have HT6 := Lib.hid (HT5.out.keep (w' := (w4.drew.alloc (.cells (ruC ⟨true, ⟨A1, p1.length, c1⟩, ⟨A2, p2.length, c2⟩⟩).toArray 30))) (by simp) (fun k hk => Below.heap_alloc w4 _ k hk))
  have HOR : Hid ((w4.drew.alloc (.cells (ruC ⟨true, ⟨A1, p1.length, c1⟩, ⟨A2, p2.length, c2⟩⟩).toArray 30)).ownsRow B 30 3 (.slice rA ys.length rc) ys.length (ys.flatMap ruC)) := HT6.out.rown
  have hb6 : (w4.drew.alloc (.cells (ruC ⟨true, ⟨A1, p1.length, c1⟩, ⟨A2, p2.length, c2⟩⟩).toArray 30)).heap[gT]? = w4.heap[gT]? := Below.heap_alloc w4 _ gT hT5
  have HQT : Hid ((w4.drew.alloc (.cells (ruC ⟨true, ⟨A1, p1.length, c1⟩, ⟨A2, p2.length, c2⟩⟩).toArray 30)).cell? ⟨gT, n * 3 + 2, none⟩ = some (.slice rA ys.length rc)) := (World.cell?_of_block (w := w4) hb6).trans HQ.out
  have HFT : Hid ((w4.drew.alloc (.cells (ruC ⟨true, ⟨A1, p1.length, c1⟩, ⟨A2, p2.length, c2⟩⟩).toArray 30)).frozen? ⟨gT, n * 3 + 2, none⟩ = false) := (World.frozen?_of_block (w := w4) hb6).trans HF.out
  have HK5 : Hid (Keep (blkL (.slice (some ⟨gT, 0, none⟩) (n + 1) cv) ++ blkL (Sl.v ⟨rA, ys.length, rc⟩)) w4 fun u => RdE atC 34 u (.slice A1 p1.length c1) p1 ∧ RdE atC 34 u (.slice A2 p2.length c2) p2) := by
    have hX : ∀ b ∈ blkL (.slice (some ⟨gT, 0, none⟩) (n + 1) cv) ++ blkL (Sl.v ⟨rA, ys.length, rc⟩), b < w.heap.size := fun b hb => by
      rcases List.mem_append.1 hb with hb | hb
      · have e : gT = b := by simpa [Value.ownBlock] using mem_blkL.1 hb
        omega
      · exact (World.ownsRow.lt HT.out.rown b (mem_blkL.1 hb)).2
    exact (OwnE.keepX atC_len HO4.out (fun b hb => .inl (by have := hX b hb; omega))).and (OwnE.keepX atC_len HP4.out (fun b hb => .inl (by have := hX b hb; omega)))
  have HK6 := Lib.hid (HK5.out.step (w' := (w4.drew.alloc (.cells (ruC ⟨true, ⟨A1, p1.length, c1⟩, ⟨A2, p2.length, c2⟩⟩).toArray 30))) (by simp) (fun b hb hX => ⟨Below.heap_alloc w4 _ b hb, hX⟩))
  have HB6 : Hid (Below B w (w4.drew.alloc (.cells (ruC ⟨true, ⟨A1, p1.length, c1⟩, ⟨A2, p2.length, c2⟩⟩).toArray 30))) := ((HB4.out.mono hB).drew).alloc (Nat.le_trans hB HB4.out.size) _
  clear HK5
  have hnn : (n : Int) < (n : Int) + 1 := by omega
  have hwr : IntKind.i64.wrap (n : Int) = (n : Int) := by rw [IntKind.wrap_i64]; omega
  go_upto_region 30 with fail
  go_region_law (first
    | (refine step_appE rfl (.tmp 108) (.tmp 116) 31 30 rfl Tryd.underlying31 _ ruC 3 56 rule_info rfl (by decide) ruC_len ruC_one B (.slice rA ys.length rc) ys (by simp [Act.eval, Act.put]) (by exact HOR.out) (.slice (some ⟨w4.heap.size, 0, none⟩) 1 1) [⟨true, ⟨A1, p1.length, c1⟩, ⟨A2, p2.length, c2⟩⟩] (by simp [Act.eval, Act.put]) (by exact rdE_one_at ruC 3 ruC_len w4.drew _ rfl ⟨true, ⟨A1, p1.length, c1⟩, ⟨A2, p2.length, c2⟩⟩ 30) (by simp only [List.length_singleton]; omega) (by decide) (by simp; omega) ?_
       intro v7 w7 hown7 hbel7 hgr7 hat7
       obtain ⟨A7, c7, hv7⟩ := own_shape hown7
       subst hv7
       have hb7 : w7.heap[gT]? = (w4.drew.alloc (.cells (ruC ⟨true, ⟨A1, p1.length, c1⟩, ⟨A2, p2.length, c2⟩⟩).toArray 30)).heap[gT]? := hgr7.block gT (by simp; omega) (by intro e; exact hTR e.symm)
       have f1 : w7.cell? ⟨gT, n * 3 + 2, none⟩ = some (.slice rA ys.length rc) := (World.cell?_of_block (w := (w4.drew.alloc (.cells (ruC ⟨true, ⟨A1, p1.length, c1⟩, ⟨A2, p2.length, c2⟩⟩).toArray 30))) hb7).trans HQT.out
       have f2 : w7.frozen? ⟨gT, n * 3 + 2, none⟩ = false := (World.frozen?_of_block (w := (w4.drew.alloc (.cells (ruC ⟨true, ⟨A1, p1.length, c1⟩, ⟨A2, p2.length, c2⟩⟩).toArray 30))) hb7).trans HFT.out
       have HN7 := Lib.hid hown7
       have HL7 := Lib.hid hbel7
       have HG7 := Lib.hid hgr7
       have HA7 := Lib.hid hat7
       clear hown7 hbel7 hgr7 hat7 hb7))
  all_goals (go_wp2_with fail)
  all_goals
    rw [HRR.out, HE.out]
    have h7 : OwnE 30 ruC 3 w7 B (Sl.v ⟨A7, ys.length + 1, c7⟩) (ys ++ [⟨true, ⟨A1, p1.length, c1⟩, ⟨A2, p2.length, c2⟩⟩]) := by
      have h := HN7.out
      have e : (ys ++ [(⟨true, ⟨A1, p1.length, c1⟩, ⟨A2, p2.length, c2⟩⟩ : RuV)]).length = ys.length + 1 := by simp
      unfold OwnE Sl.v
      rw [e] at h ⊢
      exact h
    have h8 : (Sl.v ⟨A7, ys.length + 1, c7⟩).ownBlock = (Sl.v ⟨rA, ys.length, rc⟩).ownBlock ∨ (Sl.v ⟨A7, ys.length + 1, c7⟩).ownBlock = some (w4.drew.alloc (.cells (ruC ⟨true, ⟨A1, p1.length, c1⟩, ⟨A2, p2.length, c2⟩⟩).toArray 30)).heap.size := by
      have h := HA7.out
      have e : (ys ++ [(⟨true, ⟨A1, p1.length, c1⟩, ⟨A2, p2.length, c2⟩⟩ : RuV)]).length = ys.length + 1 := by simp
      rw [e] at h
      exact h
    exact ⟨_, _, rfl, rfl, fun _ => ⟨_, _, _, TS.rule HT6.out n hn gT cv rfl xs[n] hxg ⟨true, p1, p2⟩ ⟨true, ⟨A1, p1.length, c1⟩, ⟨A2, p2.length, c2⟩⟩ rfl HK6.out (rv' := ⟨A7, ys.length + 1, c7⟩) h7 HG7.out h8⟩, (HL7.out B w (Nat.le_refl _) HB6.out).setCell (p := ⟨gT, n * 3 + 2, none⟩) hBT _⟩

set_option maxRecDepth 100000 in
set_option maxHeartbeats 8000000 in
theorem rrule_any_false (B : Nat) (w : World) (v wv : Value) (ts : List Tb) (xs : List TbV) (rv : Sl) (ys : List RuV) (a : ByteArray) (ws2 : List ByteArray) (ha : a.data.toList = wKeep) (ht : TS 46 30 B w v ts xs rv ys) (hw : RdE strC 1 w wv (a :: ws2)) (hB : B ≤ w.heap.size) (hl : ts.length ≤ 16) (hws : ∀ s ∈ a :: ws2, s.size ≤ 2147483648) :
    Calls Tryd.prog 57 #[v, wv] w (RetTab B w (ruleF ts ((a :: ws2).map fun s => s.data.toList))) := by
  obtain ⟨R, HRR⟩ : ∃ R, Hid (R = RetTab B w (ruleF ts ((a :: ws2).map fun s => s.data.toList))) := ⟨_, rfl⟩
  rw [← HRR.out]
  have HT := Lib.hid ht
  obtain ⟨Aw, cw, rfl, hlw, _⟩ := hw.shape
  obtain ⟨Av, cv, hv⟩ := ht.rd.shape
  obtain ⟨bb, o, rfl, hbl, hcell⟩ := hw.cells (by simp)
  have q0 := hcell 0 a 0 (.string a) rfl rfl
  rw [show o + (0 * 1 + 0) = o by omega] at q0
  have tT : (a.toList == [116, 97, 98, 108, 101]) = false := by rw [toList_eq_data, ha]; rfl
  have tB : (a.toList == [98, 114, 101, 97, 107]) = false := by rw [toList_eq_data, ha]; rfl
  have tK : (a.toList == [107, 101, 101, 112]) = true := by rw [toList_eq_data, ha]; rfl
  by_cases h3 : (a :: ws2).length ≠ 3
  · have e0 : ruleF ts ((a :: ws2).map fun s => s.data.toList) = ([], 2) := by unfold ruleF; rw [List.length_map, if_pos h3]
    have hp : (0 : Int) < ((a :: ws2).length : Int) := by simp only [List.length_cons]; omega
    generalize (a :: ws2).length = nw at h3 hp ⊢
    have t2 : ((nw : Int) != 3) = true := bne_iff_ne.2 (by omega)
    subst hv
    go_enter Tryd.func57, Tryd.ntmps57
    go_wp2_with fail
    rw [HRR.out, e0]
    exact ⟨_, _, rfl, rfl, fun h => absurd h (by decide), Below.refl _ _⟩
  obtain ⟨b, c, rfl⟩ : ∃ b c, ws2 = [b, c] := by
    match ws2, (show ws2.length = 2 by simp only [List.length_cons] at h3; omega) with
    | [b, c], _ => exact ⟨b, c, rfl⟩
  clear h3
  change Hid (R = RetTab B w (ruleF ts [a.data.toList, b.data.toList, c.data.toList])) at HRR
  by_cases h0 : ts.length = 0
  · obtain rfl : ts = [] := List.eq_nil_of_length_eq_zero h0
    have e0 : ruleF [] [a.data.toList, b.data.toList, c.data.toList] = ([], 8) := rfl
    subst hv
    go_enter Tryd.func57, Tryd.ntmps57
    go_wp2_with fail
    rw [HRR.out, e0]
    exact ⟨_, _, rfl, rfl, fun h => absurd h (by decide), Below.refl _ _⟩
  obtain ⟨n, hn⟩ : ∃ n, ts.length = n + 1 := ⟨ts.length - 1, by omega⟩
  obtain ⟨gT, cT, hvT, hBT⟩ := own_some ht.own (by rw [ht.len]; omega)
  rw [ht.len, hn] at hvT
  rw [hv] at hvT
  have q1 := hcell 1 b 0 (.string b) rfl rfl
  rw [show o + (1 * 1 + 0) = o + 1 by omega] at q1
  have q2 := hcell 2 c 0 (.string c) rfl rfl
  rw [show o + (2 * 1 + 0) = o + 2 by omega] at q2
  clear hcell
  have HS1 := Lib.hid (fun w => rside_any b w (hws b (by simp)))
  have HS2 := Lib.hid (fun w => rside_any c w (hws c (by simp)))
  have HE : Hid (ruleF ts [a.data.toList, b.data.toList, c.data.toList] = if (sideF b.data.toList).2 ≠ 0 then ([], (sideF b.data.toList).2) else if (sideF c.data.toList).2 ≠ 0 then ([], (sideF c.data.toList).2) else if 32 ≤ ((ts.getLast?.map (·.rs)).getD []).length then ([], 3) else (addLast ts ⟨false, (sideF b.data.toList).1, (sideF c.data.toList).1⟩, 0)) := by
    show _ = _
    have h := rule3 ts a b c (fun e => h0 (by rw [e]; rfl))
    rw [show (a.data.toList == wBreak) = false by rw [ha]; rfl] at h
    exact h
  generalize ruleF ts [a.data.toList, b.data.toList, c.data.toList] = rr at HE HRR
  generalize hs1 : sideF b.data.toList = s1 at HE
  generalize hs2 : sideF c.data.toList = s2 at HE
  obtain ⟨p1, x1⟩ := s1
  obtain ⟨p2, x2⟩ := s2
  unfold RetSide at HS1 HS2
  rw [hs1] at HS1
  rw [hs2] at HS2
  simp only at HS1 HS2 HE
  clear hs1 hs2
  rw [hn] at hv
  have hAT : Av = some ⟨gT, 0, none⟩ ∧ cv = cT := by injection hvT with e1 _ e2; exact ⟨e1, e2⟩
  obtain ⟨rfl, rfl⟩ := hAT
  clear hvT ha
  have hgT : gT < w.heap.size := (ht.own.lt gT (by rw [hv]; rfl)).2
  subst hv
  have hn1 : (((n + 1 : Nat) : Int) == 0) = false := beq_eq_false_iff_ne.2 (by omega)
  go_enter Tryd.func57, Tryd.ntmps57
  go_upto_region 23 with (go_at_call 89; refine (HS1.out _).mono ?_; rintro e w2 ⟨v1, y1, rfl, hy1, ho1, hb2⟩; subst hy1; obtain ⟨A1, c1, hv1⟩ := own_shape ho1; subst hv1)
  have HB2 := Lib.hid hb2
  have HO2 := Lib.hid ho1
  have r2 : w2.cell? ⟨bb, o + 2, none⟩ = some (.string c) := (hb2.cell (p := ⟨bb, o + 2, none⟩) hbl).trans q2
  have r0 : w2.cell? ⟨bb, o, none⟩ = some (.string a) := (hb2.cell (p := ⟨bb, o, none⟩) hbl).trans q0
  have hz2 := hb2.size
  clear q0 q1 q2 hb2 ho1 HS1
  by_cases hx1 : y1 ≠ 0
  · have t1 : (y1 != 0) = true := bne_iff_ne.2 hx1
    go_wp2_with fail
    rw [HRR.out, HE.out, if_pos hx1]
    exact ⟨_, _, rfl, rfl, fun h => absurd h hx1, HB2.out.mono hB⟩
  have t1 : (y1 != 0) = false := by simpa using hx1
  go_upto_region 26 with (go_at_call 89; refine (HS2.out _).mono ?_; rintro e w4 ⟨v2, y2, rfl, hy2, ho2, hb4⟩; subst hy2; obtain ⟨A2, c2, hv2⟩ := own_shape ho2; subst hv2)
  have HB4 := Lib.hid (HB2.out.trans (hb4.mono hz2))
  have HO4 : Hid (OwnE 26 atC 34 w4 w.heap.size (.slice A1 p1.length c1) p1) := Lib.hid (own_below HO2.out hb4 (Nat.le_refl _))
  have HP4 := Lib.hid ho2
  have s0 : w4.cell? ⟨bb, o, none⟩ = some (.string a) := (hb4.cell (p := ⟨bb, o, none⟩) (Nat.lt_of_lt_of_le hbl hz2)).trans r0
  have hb44 : bb < w4.heap.size := Nat.lt_of_lt_of_le hbl HB4.out.size
  have hz4 := hb4.size
  clear r0 r2 hb4 ho2 HS2 HO2
  by_cases hx2 : y2 ≠ 0
  · have t2 : (y2 != 0) = true := bne_iff_ne.2 hx2
    go_wp2_with fail
    rw [HRR.out, HE.out, if_neg hx1, if_pos hx2]
    exact ⟨_, _, rfl, rfl, fun h => absurd h hx2, HB4.out.mono hB⟩
  have t2 : (y2 != 0) = false := by simpa using hx2
  have HT5 := Lib.hid (HT.out.below HB4.out (Nat.le_refl _))
  obtain ⟨rA, rn, rc⟩ := rv
  obtain ⟨Ar, cr, hr⟩ := own_shape HT5.out.rown
  have hrn : rn = ys.length := by unfold Sl.v at hr; injection hr
  subst hrn
  have hxn : n < xs.length := by have := HT.out.len; omega
  have htn : n < ts.length := by omega
  have hxg : xs[n]? = some xs[n] := List.getElem?_eq_getElem hxn
  have htg : ts[n]? = some ts[n] := List.getElem?_eq_getElem htn
  obtain ⟨hxr, hyl, _⟩ := HT5.out.last n _ _ hxg htg (by omega)
  have hlast : ((ts.getLast?.map (·.rs)).getD []).length = ys.length := by
    rw [List.getLast?_eq_getElem?, hn, show n + 1 - 1 = n by omega, htg, hyl]
    rfl
  rw [hlast, if_neg hx1, if_neg hx2] at HE
  clear hyl hlast
  have HQ : Hid (w4.cell? ⟨gT, n * 3 + 2, none⟩ = some (.slice rA ys.length rc)) := by
    show _ = _
    have h := HT5.out.own
    unfold OwnE at h
    have hxl : xs.length = n + 1 := by rw [HT.out.len, hn]
    rw [hxl] at h
    rw [h.cellAt (n * 3 + 2) (by omega), flat_get tbC 3 tbC_len xs n 2 _ hxg (by omega)]
    show some xs[n].r.v = _
    rw [hxr]
    rfl
  have HF : Hid (w4.frozen? ⟨gT, n * 3 + 2, none⟩ = false) := by
    have h := HT5.out.own
    unfold OwnE at h
    have hxl : xs.length = n + 1 := by rw [HT.out.len, hn]
    rw [hxl] at h
    exact h.frozenAt (n * 3 + 2)
  have qT := HQ.out
  have hT5 : gT < w4.heap.size := Nat.lt_of_lt_of_le hgT HB4.out.size
  have hn0 : (0 : Int) ≤ (n : Int) := by omega
  by_cases h32 : 32 ≤ ys.length
  · have h32i : (32 : Int) ≤ (ys.length : Int) := by omega
    go_wp2_with fail
    rw [HRR.out, HE.out, if_pos h32]
    exact ⟨_, _, rfl, rfl, fun h => absurd h (by decide), HB4.out.mono hB⟩
  have h32i : ¬ (32 : Int) ≤ (ys.length : Int) := by omega
  rw [if_neg h32] at HE
  have hTR : (Value.slice rA ys.length rc).ownBlock ≠ some gT := HT.out.apart gT rfl
  have HT6 := Lib.hid (HT5.out.keep (w' := (w4.drew.alloc (.cells (ruC ⟨false, ⟨A1, p1.length, c1⟩, ⟨A2, p2.length, c2⟩⟩).toArray 30))) (by simp) (fun k hk => Below.heap_alloc w4 _ k hk))
  have HOR : Hid ((w4.drew.alloc (.cells (ruC ⟨false, ⟨A1, p1.length, c1⟩, ⟨A2, p2.length, c2⟩⟩).toArray 30)).ownsRow B 30 3 (.slice rA ys.length rc) ys.length (ys.flatMap ruC)) := HT6.out.rown
  have hb6 : (w4.drew.alloc (.cells (ruC ⟨false, ⟨A1, p1.length, c1⟩, ⟨A2, p2.length, c2⟩⟩).toArray 30)).heap[gT]? = w4.heap[gT]? := Below.heap_alloc w4 _ gT hT5
  have HQT : Hid ((w4.drew.alloc (.cells (ruC ⟨false, ⟨A1, p1.length, c1⟩, ⟨A2, p2.length, c2⟩⟩).toArray 30)).cell? ⟨gT, n * 3 + 2, none⟩ = some (.slice rA ys.length rc)) := (World.cell?_of_block (w := w4) hb6).trans HQ.out
  have HFT : Hid ((w4.drew.alloc (.cells (ruC ⟨false, ⟨A1, p1.length, c1⟩, ⟨A2, p2.length, c2⟩⟩).toArray 30)).frozen? ⟨gT, n * 3 + 2, none⟩ = false) := (World.frozen?_of_block (w := w4) hb6).trans HF.out
  have HK5 : Hid (Keep (blkL (.slice (some ⟨gT, 0, none⟩) (n + 1) cv) ++ blkL (Sl.v ⟨rA, ys.length, rc⟩)) w4 fun u => RdE atC 34 u (.slice A1 p1.length c1) p1 ∧ RdE atC 34 u (.slice A2 p2.length c2) p2) := by
    have hX : ∀ b ∈ blkL (.slice (some ⟨gT, 0, none⟩) (n + 1) cv) ++ blkL (Sl.v ⟨rA, ys.length, rc⟩), b < w.heap.size := fun b hb => by
      rcases List.mem_append.1 hb with hb | hb
      · have e : gT = b := by simpa [Value.ownBlock] using mem_blkL.1 hb
        omega
      · exact (World.ownsRow.lt HT.out.rown b (mem_blkL.1 hb)).2
    exact (OwnE.keepX atC_len HO4.out (fun b hb => .inl (by have := hX b hb; omega))).and (OwnE.keepX atC_len HP4.out (fun b hb => .inl (by have := hX b hb; omega)))
  have HK6 := Lib.hid (HK5.out.step (w' := (w4.drew.alloc (.cells (ruC ⟨false, ⟨A1, p1.length, c1⟩, ⟨A2, p2.length, c2⟩⟩).toArray 30))) (by simp) (fun b hb hX => ⟨Below.heap_alloc w4 _ b hb, hX⟩))
  have HB6 : Hid (Below B w (w4.drew.alloc (.cells (ruC ⟨false, ⟨A1, p1.length, c1⟩, ⟨A2, p2.length, c2⟩⟩).toArray 30))) := ((HB4.out.mono hB).drew).alloc (Nat.le_trans hB HB4.out.size) _
  clear HK5
  have hnn : (n : Int) < (n : Int) + 1 := by omega
  have hwr : IntKind.i64.wrap (n : Int) = (n : Int) := by rw [IntKind.wrap_i64]; omega
  go_upto_region 30 with fail
  go_region_law (first
    | (refine step_appE rfl (.tmp 108) (.tmp 116) 31 30 rfl Tryd.underlying31 _ ruC 3 56 rule_info rfl (by decide) ruC_len ruC_one B (.slice rA ys.length rc) ys (by simp [Act.eval, Act.put]) (by exact HOR.out) (.slice (some ⟨w4.heap.size, 0, none⟩) 1 1) [⟨false, ⟨A1, p1.length, c1⟩, ⟨A2, p2.length, c2⟩⟩] (by simp [Act.eval, Act.put]) (by exact rdE_one_at ruC 3 ruC_len w4.drew _ rfl ⟨false, ⟨A1, p1.length, c1⟩, ⟨A2, p2.length, c2⟩⟩ 30) (by simp only [List.length_singleton]; omega) (by decide) (by simp; omega) ?_
       intro v7 w7 hown7 hbel7 hgr7 hat7
       obtain ⟨A7, c7, hv7⟩ := own_shape hown7
       subst hv7
       have hb7 : w7.heap[gT]? = (w4.drew.alloc (.cells (ruC ⟨false, ⟨A1, p1.length, c1⟩, ⟨A2, p2.length, c2⟩⟩).toArray 30)).heap[gT]? := hgr7.block gT (by simp; omega) (by intro e; exact hTR e.symm)
       have f1 : w7.cell? ⟨gT, n * 3 + 2, none⟩ = some (.slice rA ys.length rc) := (World.cell?_of_block (w := (w4.drew.alloc (.cells (ruC ⟨false, ⟨A1, p1.length, c1⟩, ⟨A2, p2.length, c2⟩⟩).toArray 30))) hb7).trans HQT.out
       have f2 : w7.frozen? ⟨gT, n * 3 + 2, none⟩ = false := (World.frozen?_of_block (w := (w4.drew.alloc (.cells (ruC ⟨false, ⟨A1, p1.length, c1⟩, ⟨A2, p2.length, c2⟩⟩).toArray 30))) hb7).trans HFT.out
       have HN7 := Lib.hid hown7
       have HL7 := Lib.hid hbel7
       have HG7 := Lib.hid hgr7
       have HA7 := Lib.hid hat7
       clear hown7 hbel7 hgr7 hat7 hb7))
  all_goals (go_wp2_with fail)
  all_goals
    rw [HRR.out, HE.out]
    have h7 : OwnE 30 ruC 3 w7 B (Sl.v ⟨A7, ys.length + 1, c7⟩) (ys ++ [⟨false, ⟨A1, p1.length, c1⟩, ⟨A2, p2.length, c2⟩⟩]) := by
      have h := HN7.out
      have e : (ys ++ [(⟨false, ⟨A1, p1.length, c1⟩, ⟨A2, p2.length, c2⟩⟩ : RuV)]).length = ys.length + 1 := by simp
      unfold OwnE Sl.v
      rw [e] at h ⊢
      exact h
    have h8 : (Sl.v ⟨A7, ys.length + 1, c7⟩).ownBlock = (Sl.v ⟨rA, ys.length, rc⟩).ownBlock ∨ (Sl.v ⟨A7, ys.length + 1, c7⟩).ownBlock = some (w4.drew.alloc (.cells (ruC ⟨false, ⟨A1, p1.length, c1⟩, ⟨A2, p2.length, c2⟩⟩).toArray 30)).heap.size := by
      have h := HA7.out
      have e : (ys ++ [(⟨false, ⟨A1, p1.length, c1⟩, ⟨A2, p2.length, c2⟩⟩ : RuV)]).length = ys.length + 1 := by simp
      rw [e] at h
      exact h
    exact ⟨_, _, rfl, rfl, fun _ => ⟨_, _, _, TS.rule HT6.out n hn gT cv rfl xs[n] hxg ⟨false, p1, p2⟩ ⟨false, ⟨A1, p1.length, c1⟩, ⟨A2, p2.length, c2⟩⟩ rfl HK6.out (rv' := ⟨A7, ys.length + 1, c7⟩) h7 HG7.out h8⟩, (HL7.out B w (Nat.le_refl _) HB6.out).setCell (p := ⟨gT, n * 3 + 2, none⟩) hBT _⟩

set_option maxRecDepth 100000 in
set_option maxHeartbeats 8000000 in
theorem rline_any (B : Nat) (w : World) (v wv : Value) (ts : List Tb) (xs : List TbV) (rv : Sl) (ys : List RuV) (ws : List ByteArray) (ht : TS 46 30 B w v ts xs rv ys) (hw : RdE strC 1 w wv ws) (hB : B ≤ w.heap.size) (hl : ts.length ≤ 16) (hws : ∀ s ∈ ws, s.size ≤ 2147483648) (h0 : ws ≠ []) :
    Calls Tryd.prog 57 #[v, wv] w (RetTab B w (lineF ts (ws.map fun s => s.data.toList))) := by
  obtain ⟨a, ws2, rfl⟩ : ∃ a ws2, ws = a :: ws2 := by
    match ws, h0 with
    | a :: l, _ => exact ⟨a, l, rfl⟩
  have e : lineF ts ((a :: ws2).map fun s => s.data.toList) = if a.data.toList = wTable then tableF ts ((a :: ws2).map fun s => s.data.toList) else if a.data.toList = wBreak ∨ a.data.toList = wKeep then ruleF ts ((a :: ws2).map fun s => s.data.toList) else ([], 2) := rfl
  by_cases ht1 : a.data.toList = wTable
  · rw [e, if_pos ht1]
    exact rtable_any B w v wv ts xs rv ys a ws2 ht1 ht hw hB hl hws
  by_cases ht2 : a.data.toList = wBreak
  · rw [e, if_neg ht1, if_pos (.inl ht2)]
    exact rrule_any_true B w v wv ts xs rv ys a ws2 ht2 ht hw hB hl hws
  by_cases ht3 : a.data.toList = wKeep
  · rw [e, if_neg ht1, if_pos (.inr ht3)]
    exact rrule_any_false B w v wv ts xs rv ys a ws2 ht3 ht hw hB hl hws
  rw [e, if_neg ht1, if_neg (by rintro (h | h); exact ht2 h; exact ht3 h)]
  obtain ⟨R, HRR⟩ : ∃ R, Hid (R = RetTab B w (([], 2) : List Tb × Int)) := ⟨_, rfl⟩
  rw [← HRR.out]
  obtain ⟨Av, cv, rfl⟩ := ht.rd.shape
  obtain ⟨Aw, cw, rfl, hlw, _⟩ := hw.shape
  obtain ⟨bb, o, rfl, hbl, hcell⟩ := hw.cells (by simp)
  have q0 := hcell 0 a 0 (.string a) rfl rfl
  rw [show o + (0 * 1 + 0) = o by omega] at q0
  have hp : (0 : Int) < ((a :: ws2).length : Int) := by simp only [List.length_cons]; omega
  have tT : (a.toList == [116, 97, 98, 108, 101]) = false := by rw [toList_eq_data]; exact beq_eq_false_iff_ne.2 ht1
  have tB : (a.toList == [98, 114, 101, 97, 107]) = false := by rw [toList_eq_data]; exact beq_eq_false_iff_ne.2 ht2
  have tK : (a.toList == [107, 101, 101, 112]) = false := by rw [toList_eq_data]; exact beq_eq_false_iff_ne.2 ht3
  clear hcell ht hw h0 hws e ht1 ht2 ht3
  generalize (a :: ws2).length = nw at hp hlw ⊢
  go_enter Tryd.func57, Tryd.ntmps57
  go_wp2_with fail
  rw [HRR.out]
  exact ⟨_, _, rfl, rfl, fun h => absurd h (by decide), Below.refl _ _⟩

end Go.Proofs.YtpboaadjbkaidaaDoor

namespace Go.Proofs.YtpboaadjbkaidaaDoor
set_option maxRecDepth 100000
open Go.RowKit

theorem items_self {P : Program} (w : World) (d : Nat) (e : TypeId) (k : IntKind) (hu : P.underlying e = some (.int k)) (he : P.plainKey e = true) (xs : Array Value) (c : Nat) : ∀ is : List Nat, (∀ i ∈ is, ∃ n, xs[i * c]? = some (.int k n)) → (Op.eqItems (d + 1) e c xs xs is).run P w = .ok true w
  | [], _ => by simp [Op.eqItems]
  | i :: is, h => by
    obtain ⟨n, hn⟩ := h i List.mem_cons_self
    simp only [Op.eqItems, Sem.run_bind, run_part_plain w he hn, Result.andThen_ok, run_equalIn_int w d e k k n n hu]
    simp only [beq_self_eq_true, Bool.not_true, Bool.false_eq_true, if_false]
    exact items_self w d e k hu he xs c is fun j hj => h j (List.mem_cons_of_mem _ hj)
theorem arr_info : ∃ i, Tryd.prog.info? 5 = some i ∧ Tryd.prog.cellsOf 5 = 1 := by
  obtain ⟨i, hi⟩ : ∃ i, Tryd.prog.info? 5 = some i := Option.isSome_iff_exists.1 (by kernel_rfl)
  exact ⟨i, hi, by kernel_rfl⟩
theorem eq_set (w : World) (d : Nat) (p : Nat → Bool) : (Op.equalIn (d + 2) 24 (.agg (setC p).toArray) (.agg (setC p).toArray)).run Tryd.prog w = .ok true w := by
  obtain ⟨i, hi, hc⟩ := arr_info
  rw [run_equalIn_array w (d + 1) _ _ Tryd.underlying24 hi, hc]
  refine items_self w d _ _ Tryd.underlying5 (by kernel_rfl) _ 1 _ fun i hi => ?_
  refine ⟨(byteOf p i : Nat), ?_⟩
  rw [Nat.mul_one]
  have := setC_get p i (List.mem_range.1 hi)
  simpa using this
theorem part_set (w : World) (x : At) : (part 24 (atC x).toArray 0).run Tryd.prog w = .ok (.agg (setC x.p).toArray) w := by
  have e : (atC x).toArray.extract 0 (0 + 32) = (setC x.p).toArray := by
    unfold atC
    rw [List.extract_toArray]
    congr 1
  have h1 : ∀ w, (isAgg 24).run Tryd.prog w = .ok true w := fun w => by kernel_rfl
  have h2 : ∀ w, (sizeOf 24).run Tryd.prog w = .ok 32 w := fun w => by kernel_rfl
  simp only [part, Sem.run_bind, h1, Result.andThen_ok, if_true, h2, Sem.run_pure, e]
theorem part_mn (w : World) (x : At) : (part 3 (atC x).toArray 32).run Tryd.prog w = .ok (.int .i64 x.mn) w :=
  run_part_plain w (by kernel_rfl) (by simpa using atC_mn x)
theorem part_many (w : World) (x : At) : (part 4 (atC x).toArray 33).run Tryd.prog w = .ok (.bool x.many) w :=
  run_part_plain w (by kernel_rfl) (by simpa using atC_many x)
theorem eq_atom (w : World) (x : At) : (Op.equalIn 10000 26 (.agg (atC x).toArray) (.agg (atC x).toArray)).run Tryd.prog w = .ok true w := by
  rw [show (10000 : Nat) = 9999 + 1 from rfl, run_equalIn_struct w 9999 _ _ _ (by simp only [Program.fieldsOf, Tryd.underlying26]) (by kernel_rfl)]
  simp only [Program.fieldsOf, Tryd.underlying26, Op.eqFields]
  rw [show (9999 : Nat) = 9997 + 2 from rfl]
  simp only [Sem.run_ite, Sem.run_bind, part_set, part_mn, part_many, Result.andThen_ok, eq_set, run_equalIn_int w (9997 + 1) 3 _ _ x.mn x.mn Tryd.underlying3, run_equalIn_bool w (9997 + 1) 4 x.many x.many Tryd.underlying4]
  simp
theorem still_neq_atom {o : Oper} {a : Act} {w : World} {K : Act → Prop} (u v : Operand) (ty : TypeId) (ho : o.op = .binOp .neq 26 u v ty) (x : At) (hu : a.eval u = .agg (atC x).toArray) (hv : a.eval v = .agg (atC x).toArray) (h : K (a.put o.dst (.bool false))) : o.still Tryd.prog a w K := by
  unfold Oper.still execOp
  have hg : Tryd.prog.eqGuardType Tryd.prog.depth 26 = false := by kernel_rfl
  simp only [ho, hu, hv, Sem.run_bind, run_eqGuard_agg w _ _ _ _ _ _ hg, Result.andThen_ok, run_neq_struct, eq_atom, Sem.run_pure, Bool.not_true]
  rw [Oper.stillUpon_value]
  exact h

set_option maxRecDepth 100000 in
set_option maxHeartbeats 4000000 in
theorem same_any (l : List At) (va vb : Value) (w : World) (ha : RdE atC 34 w va l) (hb : RdE atC 34 w vb l) (hl : l.length ≤ 140737488355328) :
    Calls Tryd.prog 75 #[va, vb] w fun e w' => e = .returned (.bool true) ∧ Below w.heap.size w w' := by
  obtain ⟨A, c, rfl, hlc, _⟩ := ha.shape
  obtain ⟨A2, c2, rfl, hlc2, _⟩ := hb.shape
  have HA := Lib.hid ha
  have HB := Lib.hid hb
  clear ha hb
  have hu := Tryd.underlying26
  have hi : (Tryd.prog.info? 26).map (·.size) = some 34 := atom_size
  have tne : ((l.length : Int) != (l.length : Int)) = false := by simp
  go_enter Tryd.func75, Tryd.ntmps75
  go_wp2_with fail
  go_loopg [13] l.length (fun n kv wr => ∃ k : Nat, k ≤ l.length ∧ kv = .int .i64 k ∧ Hid (Below w.heap.size w wr) ∧ l.length - k ≤ n)
  case atStart => exact ⟨0, by omega, rfl, Below.refl _ _, by omega⟩
  case round =>
    obtain ⟨k, hk, rfl, HW, hgk⟩ := hrel
    by_cases hkl : k < l.length
    · have hki : (k : Int) < (l.length : Int) := by omega
      have hk0 : (0 : Int) ≤ (k : Int) := by omega
      obtain ⟨b, o, rfl, hbl, hcell⟩ := HA.out.cells (by omega)
      obtain ⟨b2, o2, rfl, hbl2, hcell2⟩ := HB.out.cells (by omega)
      have hx : l[k]? = some l[k] := List.getElem?_eq_getElem hkl
      have hrg : wr.drew.rangeAt b (o + k * 34) (atC l[k]) := fun j v hj => by
        rw [Nat.add_assoc]
        exact (HW.out.cell (p := ⟨b, o + (k * 34 + j), none⟩) hbl).trans (hcell k _ j v hx hj)
      have hrg2 : wr.drew.rangeAt b2 (o2 + k * 34) (atC l[k]) := fun j v hj => by
        rw [Nat.add_assoc]
        exact (HW.out.cell (p := ⟨b2, o2 + (k * 34 + j), none⟩) hbl2).trans (hcell2 k _ j v hx hj)
      clear hcell hcell2 hx
      generalize l[k] = x at hrg hrg2
      go_upto_region 6 with fail
      refine wp_region_still_lit (by kernel_rfl) (by kernel_rfl) ?_
      still_step
      still_step
      still_step
      refine wpStill_step (fun K hK => ?_)
      rw [if_pos (by rfl)]
      refine still_load_mid _ _ rfl _ _ rfl (atC x) _ hrg hu rfl (by rw [hi, atC_len]) ?_
      refine hK _ ?_
      clear hK K
      still_step
      still_step
      still_step
      refine wpStill_step (fun K hK => ?_)
      rw [if_pos (by rfl)]
      refine still_load_mid _ _ rfl _ _ rfl (atC x) _ hrg2 hu rfl (by rw [hi, atC_len]) ?_
      refine hK _ ?_
      clear hK K
      refine wpStill_step (fun K hK => ?_)
      rw [if_pos (by rfl)]
      refine still_neq_atom _ _ _ rfl x rfl rfl ?_
      refine hK _ ?_
      clear hK K
      refine wpStill_nil ?_
      have HW2 : Hid (Below w.heap.size w wr.drew) := HW.out.drew
      clear HW hrg hrg2
      show Exit.then _ _ Exit.normal _ wr.drew
      generalize wr.drew = w3 at HW2 ⊢
      simp only [Act.put, List.setIfInBounds_toArray, List.set_cons_zero, List.set_cons_succ]
      go_wp2_with fail
      go_roundg (l.length - (k + 1))
      case measure => omega
      case rel => exact ⟨k + 1, by omega, by go_num, HW2.out, Nat.le_refl _⟩
    · have hki : ¬ (k : Int) < (l.length : Int) := by omega
      go_wp2_with fail
      go_ret
      exact ⟨rfl, HW.out⟩

end Go.Proofs.YtpboaadjbkaidaaDoor

namespace Go.Proofs.YtpboaadjbkaidaaDoor
set_option maxRecDepth 100000
open Go.RowKit

theorem ofL_size (l : List UInt8) : (ofL l).size = l.length := by rw [Lib.size_eq, ofL_list]
set_option maxRecDepth 100000 in
set_option maxHeartbeats 8000000 in
theorem rrules_any (s : ByteArray) (w : World) : Calls Tryd.prog 21 #[.string s] w (RetTbs w (rulesF s)) := by
  obtain ⟨R, HRR⟩ : ∃ R, Hid (R = RetTbs w (rulesF s)) := ⟨_, rfl⟩
  rw [← HRR.out]
  by_cases h16 : 65536 < s.size
  · have h16i : (65536 : Int) < (s.size : Int) := by omega
    have e0 : rulesF s = ([], 0, 3) := by unfold rulesF; rw [if_pos h16]
    go_enter Tryd.func21, Tryd.ntmps21
    go_wp2_with fail
    go_ret3
    rw [HRR.out, e0]
    exact ⟨_, rfl, RdTb.nil, Below.refl _ _⟩
  have h16i : ¬ (65536 : Int) < (s.size : Int) := by omega
  obtain ⟨r, hr⟩ : ∃ r, rulesF s = r := ⟨_, rfl⟩
  have HR0 : Hid (linesF (linesL s.data.toList) 0 [] = r) := by show _ = _; rw [← hr]; unfold rulesF; rw [if_neg h16]
  rw [hr] at HRR
  have hlc := linesL_count s.data.toList
  have hll := linesL_len s.data.toList
  have hss : s.data.toList.length ≤ 65536 := by rw [← Lib.size_eq]; omega
  have HLI := Lib.hid (rlines_any s w (by omega))
  unfold RetLines at HLI
  have HLB : Hid (∀ x ∈ linesL s.data.toList, x.length ≤ 65536) := fun x hx => Nat.le_trans (hll x hx) hss
  have hln : (linesL s.data.toList).length ≤ 65536 := Nat.le_trans hlc hss
  generalize linesL s.data.toList = ls at HR0 HLI HLB hln
  clear hlc hll hss hr h16
  obtain ⟨N, hN⟩ : ∃ N, N = ls.length := ⟨_, rfl⟩
  have hml : (ls.map ofL).length = N := by rw [List.length_map, hN]
  go_enter Tryd.func21, Tryd.ntmps21
  go_wp2_with (go_at_call 55; refine HLI.out.mono ?_; rintro e w1 ⟨vl, rfl, hol, hb1⟩; obtain ⟨Al, cl, hvl⟩ := own_shape hol; rw [hml] at hvl; subst hvl)
  have HRL := Lib.hid (OwnE.rd (f := strC) (m := 1) (fun _ => rfl) hol)
  have HB1 := Lib.hid hb1
  clear hol hb1 HLI
  obtain ⟨wo, HWO⟩ : ∃ wo, Hid (wo = w1) := ⟨w1, rfl⟩
  go_loopg [5, 6, 7, 8, 9, 10, 17] N (fun gk tv iv sv wv av bv kv wr => ∃ (v' : Value) (k : Nat) (ts : List Tb) (xs : List TbV) (rv : Sl) (ys : List RuV), tv = v' ∧ kv = .int .i64 (k : Nat) ∧ k ≤ N ∧ Hid (TS 46 30 w1.heap.size wr v' ts xs rv ys) ∧ Hid (Below w1.heap.size w1 wr) ∧ Hid (linesF (ls.drop k) k ts = r) ∧ ts.length ≤ 16 ∧ N - k ≤ gk)
  case atStart => exact ⟨_, 0, [], [], ⟨none, 0, 0⟩, [], rfl, rfl, by omega, TS.start, Below.refl _ _, by (show _ = _); rw [List.drop_zero]; exact HR0.out, by simp, by omega⟩
  case round =>
    clear HR0 HWO
    obtain ⟨v, k, ts, xs, rv, ys, rfl, rfl, hk, HT, HB, HR, hl16, hgk⟩ := hrel
    obtain ⟨Av, cv, hv⟩ := HT.out.rd.shape
    subst hv
    by_cases hkl : k < N
    · have hki : (k : Int) < (N : Int) := by omega
      have hk0 : (0 : Int) ≤ (k : Int) := by omega
      have hkn : k < ls.length := by omega
      obtain ⟨b0, o0, hAl, hb0, hc0⟩ := HRL.out.cells (by omega)
      have hAl' : Al = some ⟨b0, o0, none⟩ := hAl
      subst hAl'
      have q0 := (HB.out.cell (p := ⟨b0, o0 + (k * 1 + 0), none⟩) hb0).trans (hc0 k (ofL ls[k]) 0 (.string (ofL ls[k])) (by rw [List.getElem?_map, List.getElem?_eq_getElem hkn]; rfl) rfl)
      rw [show o0 + (k * 1 + 0) = o0 + k by omega] at q0
      have hcl := HLB.out ls[k] (List.getElem_mem hkn)
      have HR1 : Hid (linesF (ls[k] :: ls.drop (k + 1)) k ts = r) := by
        show _ = _
        rw [← List.drop_eq_getElem_cons hkn]
        exact HR.out
      clear hc0 hAl HR
      generalize ls[k] = c1 at q0 hcl HR1
      have HW := Lib.hid (fun w' => rwords_any (ofL c1) w' (by rw [ofL_size]; omega))
      have hwd : wordsL (ofL c1).data.toList = wordsL c1 := by rw [ofL_list]
      have hwm : (wordsB (ofL c1)).map (fun s => s.data.toList) = wordsL c1 := by
        unfold wordsB
        rw [hwd, List.map_map]
        exact (List.map_congr_left fun x _ => ofL_list x).trans (List.map_id _)
      have hwb : ∀ x ∈ wordsB (ofL c1), x.size ≤ 65536 := fun x hx => by
        have h1 : x.data.toList ∈ wordsL c1 := by rw [← hwm]; exact List.mem_map_of_mem hx
        have := wordsL_len c1 _ h1
        rw [Lib.size_eq]; omega
      have hwn : ∀ x ∈ wordsB (ofL c1), x.data.toList ≠ [] := fun x hx => wordsL_ne c1 _ (by rw [← hwm]; exact List.mem_map_of_mem hx)
      unfold RetWords at HW
      generalize wordsB (ofL c1) = ws at HW hwm hwb hwn
      clear hwd
      go_upto_region 8 with (go_at_call 56; refine (HW.out _).mono ?_; rintro e w2 ⟨wv, rfl, ho2, hb2⟩)
      have HT2 := Lib.hid (HT.out.below hb2 (Nat.le_refl _))
      have HB2 := Lib.hid (HB.out.trans (hb2.mono HB.out.size))
      have HRW := Lib.hid (OwnE.rd (f := strC) (m := 1) (fun _ => rfl) ho2)
      obtain ⟨Aw, cw, hwv⟩ := own_shape ho2
      subst hwv
      clear ho2 hb2 HT HB HW q0
      have HRX : Hid (r = if idle (wordsL c1) = true then linesF (ls.drop (k + 1)) (k + 1) ts else if (lineF ts (wordsL c1)).2 ≠ 0 then ([], k + 1, (lineF ts (wordsL c1)).2) else linesF (ls.drop (k + 1)) (k + 1) (lineF ts (wordsL c1)).1) := HR1.out.symm
      rw [← hwm] at HRX
      clear HR1 hwm
      rcases ws with _ | ⟨a, ws2⟩
      · have e1 : linesF (ls.drop (k + 1)) (k + 1) ts = r := (HRX.out.trans (if_pos rfl)).symm
        go_wp2_with fail
        go_roundg (N - (k + 1))
        case measure => omega
        case rel => exact ⟨_, k + 1, ts, xs, rv, ys, rfl, by go_num, by omega, HT2.out, HB2.out, e1, hl16, Nat.le_refl _⟩
      · obtain ⟨bb, o, rfl, hbl, hcell⟩ := HRW.out.cells (by simp)
        have q0 := hcell 0 a 0 (.string a) rfl rfl
        rw [show o + (0 * 1 + 0) = o by omega] at q0
        clear hcell
        have ha := hwn a (by simp)
        have ha0 : 0 < a.size := by rw [Lib.size_eq]; exact List.length_pos_iff.2 ha
        have ha0i : (0 : Int) < (a.size : Int) := by omega
        have hid : idle ((a :: ws2).map fun s => s.data.toList) = (a[0].toNat == 35) := by
          show (a.data.toList.head? == some 35) = _
          have e1 : a.data.toList.head? = some a[0] := by
            rw [List.head?_eq_getElem?, List.getElem?_eq_getElem (by rw [← Lib.size_eq]; exact ha0)]
            rfl
          rw [e1, Bool.eq_iff_iff]
          simp [← UInt8.toNat_inj]
        have hlen := line_len ts ((a :: ws2).map fun s => s.data.toList)
        have HAD := Lib.hid (rline_any w1.heap.size w2 _ _ ts xs rv ys (a :: ws2) HT2.out HRW.out HB2.out.size hl16 (fun x hx => Nat.le_trans (hwb x hx) (by decide)) (by simp))
        unfold RetTab at HAD
        rw [hid] at HRX
        generalize lineF ts ((a :: ws2).map fun s => s.data.toList) = lr at HAD HRX hlen
        have hnw : (1 : Nat) ≤ (a :: ws2).length := by simp
        clear hid ha hwb hwn HRW
        generalize (a :: ws2).length = nw at HAD hnw ⊢
        have hnwi : ((nw : Int) == 0) = false := beq_eq_false_iff_ne.2 (by omega)
        have hnwj : (0 : Int) < (nw : Int) := by omega
        by_cases h35 : a[0].toNat = 35
        · have t35 : (((a[0].toNat : Nat) : Int) == 35) = true := by rw [h35]; rfl
          have e1 : linesF (ls.drop (k + 1)) (k + 1) ts = r := (HRX.out.trans (if_pos (by rw [h35]; rfl))).symm
          clear h35 HAD HRX
          go_wp2_with fail
          go_roundg (N - (k + 1))
          case measure => omega
          case rel => exact ⟨_, k + 1, ts, xs, rv, ys, rfl, by go_num, by omega, HT2.out, HB2.out, e1, hl16, Nat.le_refl _⟩
        · have t35 : (((a[0].toNat : Nat) : Int) == 35) = false := beq_eq_false_iff_ne.2 (by omega)
          rw [beq_eq_false_iff_ne.2 h35, if_neg Bool.false_ne_true] at HRX
          clear h35
          obtain ⟨l1, x1⟩ := lr
          simp only at HAD HRX hlen
          by_cases hx : x1 = 0
          · have e1 : linesF (ls.drop (k + 1)) (k + 1) l1 = r := by rw [HRX.out, if_neg (not_not_intro hx)]
            have tx : (x1 != 0) = false := by simpa using hx
            clear HRX
            go_wp2_with (go_at_call 57; refine HAD.out.mono ?_; rintro e w3 ⟨v3, x3, rfl, hx3, ht3, hb3⟩; subst hx3)
            obtain ⟨xs3, rv3, ys3, HT3⟩ := ht3 hx
            go_roundg (N - (k + 1))
            case measure => omega
            case rel => exact ⟨v3, k + 1, l1, xs3, rv3, ys3, rfl, by go_num, by omega, HT3, HB2.out.trans hb3, e1, hlen hx hl16, Nat.le_refl _⟩
          · have e1 : r = ([], k + 1, x1) := by rw [HRX.out, if_pos hx]
            have tx : (x1 != 0) = true := bne_iff_ne.2 hx
            clear HRX
            go_wp2_with (go_at_call 57; refine HAD.out.mono ?_; rintro e w3 ⟨v3, x3, rfl, hx3, ht3, hb3⟩; subst hx3)
            go_ret3
            rw [HRR.out, e1]
            exact ⟨_, rfl, RdTb.nil, HB1.out.trans ((HB2.out.trans hb3).mono HB1.out.size)⟩
    · obtain rfl : k = N := by omega
      have hki : ¬ (k : Int) < (k : Int) := by omega
      have e0 : r = (ts, 0, 0) := by rw [← HR.out, List.drop_eq_nil_of_le (by omega)]; rfl
      go_wp2_with fail
      go_ret3
      rw [HRR.out, e0]
      exact ⟨_, rfl, HT.out.rd, HB1.out.trans (HB.out.mono HB1.out.size)⟩

theorem ld_bool {w : World} {b o : Nat} {x : Bool} (h : w.cell? ⟨b, o, none⟩ = some (.bool x)) : (Instr.loadAt 4 (.pointer (some ⟨b, o, none⟩))).run Tryd.prog w = .ok (.bool x) w := by
  go_simp
theorem ld_str {w : World} {b o : Nat} {x : ByteArray} (h : w.cell? ⟨b, o, none⟩ = some (.string x)) : (Instr.loadAt 9 (.pointer (some ⟨b, o, none⟩))).run Tryd.prog w = .ok (.string x) w := by
  go_simp
theorem ld_rules {w : World} {b o : Nat} {A : Option Addr} {n c : Nat} (h : w.cell? ⟨b, o, none⟩ = some (.slice A n c)) : (Instr.loadAt 31 (.pointer (some ⟨b, o, none⟩))).run Tryd.prog w = .ok (.slice A n c) w := by
  go_simp
/-- The bounds under which tables are compared. -/
def TbSmall (ts : List Tb) : Prop := ts.length ≤ 1000000 ∧ ∀ t ∈ ts, RuSmall t.rs

set_option maxRecDepth 100000 in
set_option maxHeartbeats 8000000 in
theorem sameRules_any (rs : List Ru) (va vb : Value) (w : World) (ha : RdRu w va rs) (hb : RdRu w vb rs) (hsm : RuSmall rs) :
    Calls Tryd.prog 41 #[va, vb] w (DecRet w true) := by
  obtain ⟨R, HRR⟩ : ∃ R, Hid (R = DecRet w true) := ⟨_, rfl⟩
  rw [← HRR.out]
  obtain ⟨hl, hal⟩ := hsm
  obtain ⟨xs, hx0, hxl, hx⟩ := ha
  obtain ⟨zs, hz0, hzl, hz⟩ := hb
  obtain ⟨A, c, rfl, hlc, _⟩ := hx0.shape
  obtain ⟨A2, c2, rfl, hlc2, _⟩ := hz0.shape
  have hzx : zs.length = xs.length := hzl.trans hxl.symm
  have hxa : xs.length ≤ rs.length := Nat.le_of_eq hxl
  have hxb : rs.length ≤ xs.length := Nat.le_of_eq hxl.symm
  have hza : zs.length ≤ rs.length := Nat.le_of_eq hzl
  have hzb : rs.length ≤ zs.length := Nat.le_of_eq hzl.symm
  have HX := Lib.hid hx0
  have HZ := Lib.hid hz0
  have HXR := Lib.hid hx
  have HZR := Lib.hid hz
  have hlc3 : xs.length ≤ c2 := by omega
  rw [hzx] at HZ ⊢
  clear hx0 hz0 hx hz hxl hzl hzx hlc2
  have tn0 : ((xs.length : Int) != (xs.length : Int)) = false := bne_self_eq_false _
  go_enter Tryd.func41, Tryd.ntmps41
  go_wp2_with fail
  obtain ⟨wo, HWO⟩ : ∃ wo, Hid (wo = w) := ⟨w, rfl⟩
  go_loopg [5, 13] xs.length (fun gk iv kv wr => ∃ k : Nat, kv = .int .i64 k ∧ k ≤ xs.length ∧ Hid (Below w.heap.size w wr) ∧ xs.length - k ≤ gk)
  case atStart => exact ⟨0, rfl, by omega, Below.refl _ _, by omega⟩
  case round =>
    clear HWO
    obtain ⟨k, rfl, hk, HB, hgk⟩ := hrel
    by_cases hkl : k < xs.length
    · have hki : (k : Int) < (xs.length : Int) := by omega
      have hk0 : (0 : Int) ≤ (k : Int) := by omega
      obtain ⟨b1, o1, rfl, hb1, hc1⟩ := HX.out.cells (by omega)
      obtain ⟨b2, o2, hA2, hb2, hc2⟩ := HZ.out.cells (by omega)
      subst hA2
      have hxk : xs[k]? = some xs[k] := List.getElem?_eq_getElem hkl
      have hzk : zs[k]? = some (zs[k]'(by omega)) := List.getElem?_eq_getElem (by omega)
      have hrk : rs[k]? = some (rs[k]'(by omega)) := List.getElem?_eq_getElem (by omega)
      have y0 := (HB.out.cell (p := ⟨b1, o1 + (k * 3 + 0), none⟩) hb1).trans (hc1 k _ 0 _ hxk rfl)
      have y1 := (HB.out.cell (p := ⟨b1, o1 + (k * 3 + 1), none⟩) hb1).trans (hc1 k _ 1 _ hxk rfl)
      have y2 := (HB.out.cell (p := ⟨b1, o1 + (k * 3 + 2), none⟩) hb1).trans (hc1 k _ 2 _ hxk rfl)
      have z0 := (HB.out.cell (p := ⟨b2, o2 + (k * 3 + 0), none⟩) hb2).trans (hc2 k _ 0 _ hzk rfl)
      have z1 := (HB.out.cell (p := ⟨b2, o2 + (k * 3 + 1), none⟩) hb2).trans (hc2 k _ 1 _ hzk rfl)
      have z2 := (HB.out.cell (p := ⟨b2, o2 + (k * 3 + 2), none⟩) hb2).trans (hc2 k _ 2 _ hzk rfl)
      rw [show o1 + (k * 3 + 0) = o1 + k * 3 by omega] at y0
      rw [show o1 + (k * 3 + 1) = o1 + k * 3 + 1 by omega] at y1
      rw [show o1 + (k * 3 + 2) = o1 + k * 3 + 2 by omega] at y2
      rw [show o2 + (k * 3 + 0) = o2 + k * 3 by omega] at z0
      rw [show o2 + (k * 3 + 1) = o2 + k * 3 + 1 by omega] at z1
      rw [show o2 + (k * 3 + 2) = o2 + k * 3 + 2 by omega] at z2
      obtain ⟨hbr, hbf, haf⟩ := HXR.out k _ _ hxk hrk
      obtain ⟨hbr2, hbf2, haf2⟩ := HZR.out k _ _ hzk hrk
      have hrl := hal _ (List.getElem_mem (show k < rs.length by omega))
      have HU1 := Lib.hid (hbf.below HB.out (Nat.le_refl _))
      have HT1 := Lib.hid (haf.below HB.out (Nat.le_refl _))
      have HU2 := Lib.hid (hbf2.below HB.out (Nat.le_refl _))
      have HT2 := Lib.hid (haf2.below HB.out (Nat.le_refl _))
      clear hc1 hc2 hxk hzk hrk hbf haf hbf2 haf2
      generalize xs[k] = y at y0 y1 y2 HU1 HT1 hbr
      generalize zs[k]'(by omega) = z at z0 z1 z2 HU2 HT2 hbr2
      generalize rs[k]'(by omega) = r at HU1 HT1 HU2 HT2 hrl hbr hbr2
      obtain ⟨bv, ⟨uA, un, uc⟩, ⟨tA, tn, tc⟩⟩ := y
      obtain ⟨bv2, ⟨u2A, un2, u2c⟩, ⟨t2A, tn2, t2c⟩⟩ := z
      obtain rfl : bv = bv2 := hbr.trans hbr2.symm
      clear hbr hbr2
      change wr.cell? _ = some (.bool bv) at y0
      change wr.cell? _ = some (.bool bv) at z0
      change wr.cell? _ = some (.slice uA un uc) at y1
      change wr.cell? _ = some (.slice tA tn tc) at y2
      change wr.cell? _ = some (.slice u2A un2 u2c) at z1
      change wr.cell? _ = some (.slice t2A tn2 t2c) at z2
      change Hid (RdE atC 34 wr (.slice uA un uc) r.bf) at HU1
      change Hid (RdE atC 34 wr (.slice tA tn tc) r.af) at HT1
      change Hid (RdE atC 34 wr (.slice u2A un2 u2c) r.bf) at HU2
      change Hid (RdE atC 34 wr (.slice t2A tn2 t2c) r.af) at HT2
      have hz := HB.out.size
      have l1 : b1 < wr.heap.size := Nat.lt_of_lt_of_le hb1 hz
      have l2 : b2 < wr.heap.size := Nat.lt_of_lt_of_le hb2 hz
      have HS1 := Lib.hid (fun (w' : World) (h : Below wr.heap.size wr w') => same_any r.bf (.slice uA un uc) (.slice u2A un2 u2c) w' (HU1.out.below h (Nat.le_refl _)) (HU2.out.below h (Nat.le_refl _)) (by omega))
      have HS2 := Lib.hid (fun (w' : World) (h : Below wr.heap.size wr w') => same_any r.af (.slice tA tn tc) (.slice t2A tn2 t2c) w' (HT1.out.below h (Nat.le_refl _)) (HT2.out.below h (Nat.le_refl _)) (by omega))
      have tb : (bv != bv) = false := bne_self_eq_false bv
      clear HU1 HT1 HU2 HT2
      go_wp2_with fail
      refine wp_region_at 39 #[false, false, false, false, false, false, false, false, false, false, false, false, false, false, false, false, false, false, false, false, false, false, false, false, false, false, false, false, false, false, false, false, false, false, false, false, false, false, false] rfl rfl (by kernel_rfl) ?_
      refine wpAny_at (i := 0) (v := .slice (some ⟨b1, o1, none⟩) xs.length c) (some 16) rfl rfl (by kernel_rfl) (by kernel_rfl) (by kernel_rfl) (fun _ _ _ h => h) (by kernel_rfl) (fun _ => ex_move _ _ rfl (by kernel_rfl)) ?_
      simp only [Act.put, List.setIfInBounds_toArray, List.set_cons_zero, List.set_cons_succ]
      refine wpAny_at (i := 1) (v := .int .i64 (k : Int)) (some 17) rfl rfl (by kernel_rfl) (by kernel_rfl) (by kernel_rfl) (fun _ _ _ h => h) (by kernel_rfl) (fun _ => ex_move _ _ rfl (by kernel_rfl)) ?_
      simp only [Act.put, List.setIfInBounds_toArray, List.set_cons_zero, List.set_cons_succ]
      refine wpAny_at (i := 2) (v := .pointer (some ⟨b1, o1 + k * 3, none⟩)) (some 18) rfl rfl (by kernel_rfl) (by kernel_rfl) (by kernel_rfl) (fun _ _ _ h => h) (by kernel_rfl) (fun _ => ex_indexAddr 31 _ _ (.slice (some ⟨b1, o1, none⟩) xs.length c) (.int .i64 (k : Int)) _ rfl (by kernel_rfl) (by kernel_rfl) (by go_simp)) ?_
      simp only [Act.put, List.setIfInBounds_toArray, List.set_cons_zero, List.set_cons_succ]
      refine wpAny_at (i := 3) (v := .pointer (some ⟨b1, o1 + k * 3, none⟩)) (some 19) rfl rfl (by kernel_rfl) (by kernel_rfl) (by kernel_rfl) (fun _ _ _ h => h) (by kernel_rfl) (fun _ => ex_fieldAddr 30 _ 0 (.pointer (some ⟨b1, o1 + k * 3, none⟩)) _ rfl (by kernel_rfl) (by go_simp)) ?_
      simp only [Act.put, List.setIfInBounds_toArray, List.set_cons_zero, List.set_cons_succ]
      refine wpAny_at (i := 5) (v := .slice (some ⟨b2, o2, none⟩) xs.length c2) (some 21) rfl rfl (by kernel_rfl) (by kernel_rfl) (by kernel_rfl) (fun _ _ _ h => h) (by kernel_rfl) (fun _ => ex_move _ _ rfl (by kernel_rfl)) ?_
      simp only [Act.put, List.setIfInBounds_toArray, List.set_cons_zero, List.set_cons_succ]
      refine wpAny_at (i := 6) (v := .int .i64 (k : Int)) (some 22) rfl rfl (by kernel_rfl) (by kernel_rfl) (by kernel_rfl) (fun _ _ _ h => h) (by kernel_rfl) (fun _ => ex_move _ _ rfl (by kernel_rfl)) ?_
      simp only [Act.put, List.setIfInBounds_toArray, List.set_cons_zero, List.set_cons_succ]
      refine wpAny_at (i := 7) (v := .pointer (some ⟨b2, o2 + k * 3, none⟩)) (some 23) rfl rfl (by kernel_rfl) (by kernel_rfl) (by kernel_rfl) (fun _ _ _ h => h) (by kernel_rfl) (fun _ => ex_indexAddr 31 _ _ (.slice (some ⟨b2, o2, none⟩) xs.length c2) (.int .i64 (k : Int)) _ rfl (by kernel_rfl) (by kernel_rfl) (by go_simp)) ?_
      simp only [Act.put, List.setIfInBounds_toArray, List.set_cons_zero, List.set_cons_succ]
      refine wpAny_at (i := 8) (v := .pointer (some ⟨b2, o2 + k * 3, none⟩)) (some 24) rfl rfl (by kernel_rfl) (by kernel_rfl) (by kernel_rfl) (fun _ _ _ h => h) (by kernel_rfl) (fun _ => ex_fieldAddr 30 _ 0 (.pointer (some ⟨b2, o2 + k * 3, none⟩)) _ rfl (by kernel_rfl) (by go_simp)) ?_
      simp only [Act.put, List.setIfInBounds_toArray, List.set_cons_zero, List.set_cons_succ]
      refine wpAny_both 4 9 20 25 (.bool bv) (.bool bv) (by kernel_rfl) (by kernel_rfl) (by kernel_rfl) rfl rfl rfl rfl (by decide) (by decide) (by kernel_rfl) (by kernel_rfl) (by kernel_rfl) (by kernel_rfl) (ex_load 4 _ (.pointer (some ⟨b1, o1 + k * 3, none⟩)) _ rfl (by kernel_rfl) (ld_bool (w := wr.drew) y0)) (ex_load 4 _ (.pointer (some ⟨b2, o2 + k * 3, none⟩)) _ rfl (by kernel_rfl) (ld_bool (w := wr.drew) z0)) (ex_load 4 _ (.pointer (some ⟨b1, o1 + k * 3, none⟩)) _ rfl (by kernel_rfl) (ld_bool (w := wr.drew) y0)) (ex_load 4 _ (.pointer (some ⟨b2, o2 + k * 3, none⟩)) _ rfl (by kernel_rfl) (ld_bool (w := wr.drew) z0)) rfl ?_
      simp only [Act.put, List.setIfInBounds_toArray, List.set_cons_zero, List.set_cons_succ]
      refine wpAny_at (i := 10) (v := .bool false) (some 26) rfl rfl (by kernel_rfl) (by kernel_rfl) (by kernel_rfl) (fun _ _ _ h => h) (by kernel_rfl) (fun _ => ex_binOp .neq 4 4 _ _ (.bool bv) (.bool bv) _ rfl (by kernel_rfl) (by kernel_rfl) (by go_simp)) ?_
      simp only [Act.put, List.setIfInBounds_toArray, List.set_cons_zero, List.set_cons_succ]
      refine wpAny_at (i := 11) (v := .bool false) (some 27) rfl rfl (by kernel_rfl) (by kernel_rfl) (by kernel_rfl) (fun _ _ _ h => h) (by kernel_rfl) (fun _ => ex_move _ _ rfl (by kernel_rfl)) ?_
      simp only [Act.put, List.setIfInBounds_toArray, List.set_cons_zero, List.set_cons_succ]
      refine wpAny_at (i := 12) (v := .slice (some ⟨b1, o1, none⟩) xs.length c) (some 28) rfl rfl (by kernel_rfl) (by kernel_rfl) (by kernel_rfl) (fun _ _ _ h => h) (by kernel_rfl) (fun _ => ex_move _ _ rfl (by kernel_rfl)) ?_
      simp only [Act.put, List.setIfInBounds_toArray, List.set_cons_zero, List.set_cons_succ]
      refine wpAny_at (i := 13) (v := .int .i64 (k : Int)) (some 29) rfl rfl (by kernel_rfl) (by kernel_rfl) (by kernel_rfl) (fun _ _ _ h => h) (by kernel_rfl) (fun _ => ex_move _ _ rfl (by kernel_rfl)) ?_
      simp only [Act.put, List.setIfInBounds_toArray, List.set_cons_zero, List.set_cons_succ]
      refine wpAny_at (i := 14) (v := .pointer (some ⟨b1, o1 + k * 3, none⟩)) (some 30) rfl rfl (by kernel_rfl) (by kernel_rfl) (by kernel_rfl) (fun _ _ _ h => h) (by kernel_rfl) (fun _ => ex_indexAddr 31 _ _ (.slice (some ⟨b1, o1, none⟩) xs.length c) (.int .i64 (k : Int)) _ rfl (by kernel_rfl) (by kernel_rfl) (by go_simp)) ?_
      simp only [Act.put, List.setIfInBounds_toArray, List.set_cons_zero, List.set_cons_succ]
      refine wpAny_at (i := 15) (v := .pointer (some ⟨b1, o1 + k * 3 + 1, none⟩)) (some 31) rfl rfl (by kernel_rfl) (by kernel_rfl) (by kernel_rfl) (fun _ _ _ h => h) (by kernel_rfl) (fun _ => ex_fieldAddr 30 _ 1 (.pointer (some ⟨b1, o1 + k * 3, none⟩)) _ rfl (by kernel_rfl) (by go_simp)) ?_
      simp only [Act.put, List.setIfInBounds_toArray, List.set_cons_zero, List.set_cons_succ]
      refine wpAny_at (i := 17) (v := .slice (some ⟨b2, o2, none⟩) xs.length c2) (some 33) rfl rfl (by kernel_rfl) (by kernel_rfl) (by kernel_rfl) (fun _ _ _ h => h) (by kernel_rfl) (fun _ => ex_move _ _ rfl (by kernel_rfl)) ?_
      simp only [Act.put, List.setIfInBounds_toArray, List.set_cons_zero, List.set_cons_succ]
      refine wpAny_at (i := 18) (v := .int .i64 (k : Int)) (some 34) rfl rfl (by kernel_rfl) (by kernel_rfl) (by kernel_rfl) (fun _ _ _ h => h) (by kernel_rfl) (fun _ => ex_move _ _ rfl (by kernel_rfl)) ?_
      simp only [Act.put, List.setIfInBounds_toArray, List.set_cons_zero, List.set_cons_succ]
      refine wpAny_at (i := 19) (v := .pointer (some ⟨b2, o2 + k * 3, none⟩)) (some 35) rfl rfl (by kernel_rfl) (by kernel_rfl) (by kernel_rfl) (fun _ _ _ h => h) (by kernel_rfl) (fun _ => ex_indexAddr 31 _ _ (.slice (some ⟨b2, o2, none⟩) xs.length c2) (.int .i64 (k : Int)) _ rfl (by kernel_rfl) (by kernel_rfl) (by go_simp)) ?_
      simp only [Act.put, List.setIfInBounds_toArray, List.set_cons_zero, List.set_cons_succ]
      refine wpAny_at (i := 20) (v := .pointer (some ⟨b2, o2 + k * 3 + 1, none⟩)) (some 36) rfl rfl (by kernel_rfl) (by kernel_rfl) (by kernel_rfl) (fun _ _ _ h => h) (by kernel_rfl) (fun _ => ex_fieldAddr 30 _ 1 (.pointer (some ⟨b2, o2 + k * 3, none⟩)) _ rfl (by kernel_rfl) (by go_simp)) ?_
      simp only [Act.put, List.setIfInBounds_toArray, List.set_cons_zero, List.set_cons_succ]
      refine wpAny_both 16 21 32 37 (.slice uA un uc) (.slice u2A un2 u2c) (by kernel_rfl) (by kernel_rfl) (by kernel_rfl) rfl rfl rfl rfl (by decide) (by decide) (by kernel_rfl) (by kernel_rfl) (by kernel_rfl) (by kernel_rfl) (ex_load 28 _ (.pointer (some ⟨b1, o1 + k * 3 + 1, none⟩)) _ rfl (by kernel_rfl) (ld_slice (w := wr.drew) y1)) (ex_load 28 _ (.pointer (some ⟨b2, o2 + k * 3 + 1, none⟩)) _ rfl (by kernel_rfl) (ld_slice (w := wr.drew) z1)) (ex_load 28 _ (.pointer (some ⟨b1, o1 + k * 3 + 1, none⟩)) _ rfl (by kernel_rfl) (ld_slice (w := wr.drew) y1)) (ex_load 28 _ (.pointer (some ⟨b2, o2 + k * 3 + 1, none⟩)) _ rfl (by kernel_rfl) (ld_slice (w := wr.drew) z1)) rfl ?_
      simp only [Act.put, List.setIfInBounds_toArray, List.set_cons_zero, List.set_cons_succ]
      refine wpAny_call 22 (some 38) (by kernel_rfl) rfl rfl (by kernel_rfl) 75 (#[.slice uA un uc, .slice u2A un2 u2c]) (by go_simp) (HS1.out _ (below_drewN (Below.refl _ wr) 1)) ?_
      rintro e wa ⟨rfl, hba⟩
      refine ⟨_, rfl, ?_⟩
      have hx5 := (below_drewN (Below.refl wr.heap.size wr) 1).trans hba
      simp only [Act.put, List.setIfInBounds_toArray, List.set_cons_zero, List.set_cons_succ]
      refine wpAny_at (i := 23) (v := .bool false) (some 39) rfl rfl (by kernel_rfl) (by kernel_rfl) (by kernel_rfl) (fun _ _ _ h => h) (by kernel_rfl) (fun _ => ex_unOp .not 4 _ (.bool true) _ rfl (by kernel_rfl) (by go_simp)) ?_
      simp only [Act.put, List.setIfInBounds_toArray, List.set_cons_zero, List.set_cons_succ]
      refine wpAny_at (i := 24) (v := .bool false) (some 40) rfl rfl (by kernel_rfl) (by kernel_rfl) (by kernel_rfl) (fun _ _ _ h => h) (by kernel_rfl) (fun _ => ex_pick _ _ _ false (.bool true) (.bool false) rfl (by kernel_rfl) (by kernel_rfl) (by kernel_rfl)) ?_
      simp only [Act.put, List.setIfInBounds_toArray, List.set_cons_zero, List.set_cons_succ]
      refine wpAny_at (i := 25) (v := .bool false) (some 41) rfl rfl (by kernel_rfl) (by kernel_rfl) (by kernel_rfl) (fun _ _ _ h => h) (by kernel_rfl) (fun _ => ex_move _ _ rfl (by kernel_rfl)) ?_
      simp only [Act.put, List.setIfInBounds_toArray, List.set_cons_zero, List.set_cons_succ]
      refine wpAny_at (i := 26) (v := .slice (some ⟨b1, o1, none⟩) xs.length c) (some 42) rfl rfl (by kernel_rfl) (by kernel_rfl) (by kernel_rfl) (fun _ _ _ h => h) (by kernel_rfl) (fun _ => ex_move _ _ rfl (by kernel_rfl)) ?_
      simp only [Act.put, List.setIfInBounds_toArray, List.set_cons_zero, List.set_cons_succ]
      refine wpAny_at (i := 27) (v := .int .i64 (k : Int)) (some 43) rfl rfl (by kernel_rfl) (by kernel_rfl) (by kernel_rfl) (fun _ _ _ h => h) (by kernel_rfl) (fun _ => ex_move _ _ rfl (by kernel_rfl)) ?_
      simp only [Act.put, List.setIfInBounds_toArray, List.set_cons_zero, List.set_cons_succ]
      refine wpAny_at (i := 28) (v := .pointer (some ⟨b1, o1 + k * 3, none⟩)) (some 44) rfl rfl (by kernel_rfl) (by kernel_rfl) (by kernel_rfl) (fun _ _ _ h => h) (by kernel_rfl) (fun _ => ex_indexAddr 31 _ _ (.slice (some ⟨b1, o1, none⟩) xs.length c) (.int .i64 (k : Int)) _ rfl (by kernel_rfl) (by kernel_rfl) (by go_simp)) ?_
      simp only [Act.put, List.setIfInBounds_toArray, List.set_cons_zero, List.set_cons_succ]
      refine wpAny_at (i := 29) (v := .pointer (some ⟨b1, o1 + k * 3 + 2, none⟩)) (some 45) rfl rfl (by kernel_rfl) (by kernel_rfl) (by kernel_rfl) (fun _ _ _ h => h) (by kernel_rfl) (fun _ => ex_fieldAddr 30 _ 2 (.pointer (some ⟨b1, o1 + k * 3, none⟩)) _ rfl (by kernel_rfl) (by go_simp)) ?_
      simp only [Act.put, List.setIfInBounds_toArray, List.set_cons_zero, List.set_cons_succ]
      refine wpAny_at (i := 31) (v := .slice (some ⟨b2, o2, none⟩) xs.length c2) (some 47) rfl rfl (by kernel_rfl) (by kernel_rfl) (by kernel_rfl) (fun _ _ _ h => h) (by kernel_rfl) (fun _ => ex_move _ _ rfl (by kernel_rfl)) ?_
      simp only [Act.put, List.setIfInBounds_toArray, List.set_cons_zero, List.set_cons_succ]
      refine wpAny_at (i := 32) (v := .int .i64 (k : Int)) (some 48) rfl rfl (by kernel_rfl) (by kernel_rfl) (by kernel_rfl) (fun _ _ _ h => h) (by kernel_rfl) (fun _ => ex_move _ _ rfl (by kernel_rfl)) ?_
      simp only [Act.put, List.setIfInBounds_toArray, List.set_cons_zero, List.set_cons_succ]
      refine wpAny_at (i := 33) (v := .pointer (some ⟨b2, o2 + k * 3, none⟩)) (some 49) rfl rfl (by kernel_rfl) (by kernel_rfl) (by kernel_rfl) (fun _ _ _ h => h) (by kernel_rfl) (fun _ => ex_indexAddr 31 _ _ (.slice (some ⟨b2, o2, none⟩) xs.length c2) (.int .i64 (k : Int)) _ rfl (by kernel_rfl) (by kernel_rfl) (by go_simp)) ?_
      simp only [Act.put, List.setIfInBounds_toArray, List.set_cons_zero, List.set_cons_succ]
      refine wpAny_at (i := 34) (v := .pointer (some ⟨b2, o2 + k * 3 + 2, none⟩)) (some 50) rfl rfl (by kernel_rfl) (by kernel_rfl) (by kernel_rfl) (fun _ _ _ h => h) (by kernel_rfl) (fun _ => ex_fieldAddr 30 _ 2 (.pointer (some ⟨b2, o2 + k * 3, none⟩)) _ rfl (by kernel_rfl) (by go_simp)) ?_
      simp only [Act.put, List.setIfInBounds_toArray, List.set_cons_zero, List.set_cons_succ]
      refine wpAny_both 30 35 46 51 (.slice tA tn tc) (.slice t2A tn2 t2c) (by kernel_rfl) (by kernel_rfl) (by kernel_rfl) rfl rfl rfl rfl (by decide) (by decide) (by kernel_rfl) (by kernel_rfl) (by kernel_rfl) (by kernel_rfl) (ex_load 28 _ (.pointer (some ⟨b1, o1 + k * 3 + 2, none⟩)) _ rfl (by kernel_rfl) (ld_slice ((hx5.cell (p := ⟨b1, o1 + k * 3 + 2, none⟩) l1).trans y2))) (ex_load 28 _ (.pointer (some ⟨b2, o2 + k * 3 + 2, none⟩)) _ rfl (by kernel_rfl) (ld_slice ((hx5.cell (p := ⟨b2, o2 + k * 3 + 2, none⟩) l2).trans z2))) (ex_load 28 _ (.pointer (some ⟨b1, o1 + k * 3 + 2, none⟩)) _ rfl (by kernel_rfl) (ld_slice ((hx5.cell (p := ⟨b1, o1 + k * 3 + 2, none⟩) l1).trans y2))) (ex_load 28 _ (.pointer (some ⟨b2, o2 + k * 3 + 2, none⟩)) _ rfl (by kernel_rfl) (ld_slice ((hx5.cell (p := ⟨b2, o2 + k * 3 + 2, none⟩) l2).trans z2))) rfl ?_
      simp only [Act.put, List.setIfInBounds_toArray, List.set_cons_zero, List.set_cons_succ]
      refine wpAny_call 36 (some 52) (by kernel_rfl) rfl rfl (by kernel_rfl) 75 (#[.slice tA tn tc, .slice t2A tn2 t2c]) (by go_simp) (HS2.out _ hx5) ?_
      rintro e wb ⟨rfl, hbb⟩
      refine ⟨_, rfl, ?_⟩
      simp only [Act.put, List.setIfInBounds_toArray, List.set_cons_zero, List.set_cons_succ]
      refine wpAny_at (i := 37) (v := .bool false) (some 53) rfl rfl (by kernel_rfl) (by kernel_rfl) (by kernel_rfl) (fun _ _ _ h => h) (by kernel_rfl) (fun _ => ex_unOp .not 4 _ (.bool true) _ rfl (by kernel_rfl) (by go_simp)) ?_
      simp only [Act.put, List.setIfInBounds_toArray, List.set_cons_zero, List.set_cons_succ]
      refine wpAny_at (i := 38) (v := .bool false) (some 54) rfl rfl (by kernel_rfl) (by kernel_rfl) (by kernel_rfl) (fun _ _ _ h => h) (by kernel_rfl) (fun _ => ex_pick _ _ _ false (.bool true) (.bool false) rfl (by kernel_rfl) (by kernel_rfl) (by kernel_rfl)) ?_
      simp only [Act.put, List.setIfInBounds_toArray, List.set_cons_zero, List.set_cons_succ]
      refine wpAny_done (by kernel_rfl) ?_ _
      have HB5 := Lib.hid (HB.out.trans ((hx5.trans (hbb.mono hx5.size)).mono hz))
      clear hx5 hba hbb
      go_wp2_with fail
      go_roundg (xs.length - (k + 1))
      case measure => omega
      case rel => exact ⟨k + 1, by go_num, by omega, HB5.out, Nat.le_refl _⟩
    · obtain rfl : k = xs.length := by omega
      have hki : ¬ (xs.length : Int) < (xs.length : Int) := by omega
      go_wp2_with fail
      rw [HRR.out]
      exact ⟨rfl, HB.out⟩

set_option maxRecDepth 100000 in
set_option maxHeartbeats 8000000 in
theorem sameTables_any (ts : List Tb) (va vb : Value) (w : World) (ha : RdTb w va ts) (hb : RdTb w vb ts) (hsm : TbSmall ts) :
    Calls Tryd.prog 22 #[va, vb] w (DecRet w true) := by
  obtain ⟨R, HRR⟩ : ∃ R, Hid (R = DecRet w true) := ⟨_, rfl⟩
  rw [← HRR.out]
  obtain ⟨hl, hal⟩ := hsm
  obtain ⟨xs, hx0, hxl, hx⟩ := ha
  obtain ⟨zs, hz0, hzl, hz⟩ := hb
  obtain ⟨A, c, rfl, hlc, _⟩ := hx0.shape
  obtain ⟨A2, c2, rfl, hlc2, _⟩ := hz0.shape
  have hzx : zs.length = xs.length := hzl.trans hxl.symm
  have hxa : xs.length ≤ ts.length := Nat.le_of_eq hxl
  have hxb : ts.length ≤ xs.length := Nat.le_of_eq hxl.symm
  have hza : zs.length ≤ ts.length := Nat.le_of_eq hzl
  have hzb : ts.length ≤ zs.length := Nat.le_of_eq hzl.symm
  have HX := Lib.hid hx0
  have HZ := Lib.hid hz0
  have HXR := Lib.hid hx
  have HZR := Lib.hid hz
  have hlc3 : xs.length ≤ c2 := by omega
  rw [hzx] at HZ ⊢
  clear hx0 hz0 hx hz hxl hzl hzx hlc2
  have tn0 : ((xs.length : Int) != (xs.length : Int)) = false := bne_self_eq_false _
  go_enter Tryd.func22, Tryd.ntmps22
  go_wp2_with fail
  obtain ⟨wo, HWO⟩ : ∃ wo, Hid (wo = w) := ⟨w, rfl⟩
  go_loopg [5, 13] xs.length (fun gk iv kv wr => ∃ k : Nat, kv = .int .i64 k ∧ k ≤ xs.length ∧ Hid (Below w.heap.size w wr) ∧ xs.length - k ≤ gk)
  case atStart => exact ⟨0, rfl, by omega, Below.refl _ _, by omega⟩
  case round =>
    clear HWO
    obtain ⟨k, rfl, hk, HB, hgk⟩ := hrel
    by_cases hkl : k < xs.length
    · have hki : (k : Int) < (xs.length : Int) := by omega
      have hk0 : (0 : Int) ≤ (k : Int) := by omega
      obtain ⟨b1, o1, rfl, hb1, hc1⟩ := HX.out.cells (by omega)
      obtain ⟨b2, o2, hA2, hb2, hc2⟩ := HZ.out.cells (by omega)
      subst hA2
      have hxk : xs[k]? = some xs[k] := List.getElem?_eq_getElem hkl
      have hzk : zs[k]? = some (zs[k]'(by omega)) := List.getElem?_eq_getElem (by omega)
      have hrk : ts[k]? = some (ts[k]'(by omega)) := List.getElem?_eq_getElem (by omega)
      have y0 := (HB.out.cell (p := ⟨b1, o1 + (k * 3 + 0), none⟩) hb1).trans (hc1 k _ 0 _ hxk rfl)
      have y1 := (HB.out.cell (p := ⟨b1, o1 + (k * 3 + 1), none⟩) hb1).trans (hc1 k _ 1 _ hxk rfl)
      have y2 := (HB.out.cell (p := ⟨b1, o1 + (k * 3 + 2), none⟩) hb1).trans (hc1 k _ 2 _ hxk rfl)
      have z0 := (HB.out.cell (p := ⟨b2, o2 + (k * 3 + 0), none⟩) hb2).trans (hc2 k _ 0 _ hzk rfl)
      have z1 := (HB.out.cell (p := ⟨b2, o2 + (k * 3 + 1), none⟩) hb2).trans (hc2 k _ 1 _ hzk rfl)
      have z2 := (HB.out.cell (p := ⟨b2, o2 + (k * 3 + 2), none⟩) hb2).trans (hc2 k _ 2 _ hzk rfl)
      rw [show o1 + (k * 3 + 0) = o1 + k * 3 by omega] at y0
      rw [show o1 + (k * 3 + 1) = o1 + k * 3 + 1 by omega] at y1
      rw [show o1 + (k * 3 + 2) = o1 + k * 3 + 2 by omega] at y2
      rw [show o2 + (k * 3 + 0) = o2 + k * 3 by omega] at z0
      rw [show o2 + (k * 3 + 1) = o2 + k * 3 + 1 by omega] at z1
      rw [show o2 + (k * 3 + 2) = o2 + k * 3 + 2 by omega] at z2
      obtain ⟨hnm, hpa, hru⟩ := HXR.out k _ _ hxk hrk
      obtain ⟨hnm2, hpa2, hru2⟩ := HZR.out k _ _ hzk hrk
      have hrl := hal _ (List.getElem_mem (show k < ts.length by omega))
      have HU1 := Lib.hid (hru.below HB.out (Nat.le_refl _))
      have HU2 := Lib.hid (hru2.below HB.out (Nat.le_refl _))
      clear hc1 hc2 hxk hzk hrk hru hru2
      generalize xs[k] = y at y0 y1 y2 HU1 hnm hpa
      generalize zs[k]'(by omega) = z at z0 z1 z2 HU2 hnm2 hpa2
      generalize ts[k]'(by omega) = t at HU1 HU2 hrl hnm hpa hnm2 hpa2
      obtain ⟨nm, pa, ⟨rA, rn, rc⟩⟩ := y
      obtain ⟨nm2, pa2, ⟨r2A, rn2, r2c⟩⟩ := z
      obtain rfl : nm = nm2 := hnm.trans hnm2.symm
      obtain rfl : pa = pa2 := hpa.trans hpa2.symm
      clear hnm hpa hnm2 hpa2
      change wr.cell? _ = some (.string nm) at y0
      change wr.cell? _ = some (.string nm) at z0
      change wr.cell? _ = some (.string pa) at y1
      change wr.cell? _ = some (.string pa) at z1
      change wr.cell? _ = some (.slice rA rn rc) at y2
      change wr.cell? _ = some (.slice r2A rn2 r2c) at z2
      change Hid (RdRu wr (.slice rA rn rc) t.rs) at HU1
      change Hid (RdRu wr (.slice r2A rn2 r2c) t.rs) at HU2
      have hz := HB.out.size
      have l1 : b1 < wr.heap.size := Nat.lt_of_lt_of_le hb1 hz
      have l2 : b2 < wr.heap.size := Nat.lt_of_lt_of_le hb2 hz
      have HS1 := Lib.hid (fun (w' : World) (h : Below wr.heap.size wr w') => sameRules_any t.rs (.slice rA rn rc) (.slice r2A rn2 r2c) w' (HU1.out.below h (Nat.le_refl _)) (HU2.out.below h (Nat.le_refl _)) hrl)
      have tb : (nm.toList != nm.toList) = false := bne_self_eq_false _
      have tp : (pa.toList != pa.toList) = false := bne_self_eq_false _
      clear HU1 HU2
      go_wp2_with fail
      refine wp_region_at 38 #[false, false, false, false, false, false, false, false, false, false, false, false, false, false, false, false, false, false, false, false, false, false, false, false, false, false, false, false, false, false, false, false, false, false, false, false, false, false] rfl rfl (by kernel_rfl) ?_
      refine wpAny_at (i := 0) (v := .slice (some ⟨b1, o1, none⟩) xs.length c) (some 16) rfl rfl (by kernel_rfl) (by kernel_rfl) (by kernel_rfl) (fun _ _ _ h => h) (by kernel_rfl) (fun _ => ex_move _ _ rfl (by kernel_rfl)) ?_
      simp only [Act.put, List.setIfInBounds_toArray, List.set_cons_zero, List.set_cons_succ]
      refine wpAny_at (i := 1) (v := .int .i64 (k : Int)) (some 17) rfl rfl (by kernel_rfl) (by kernel_rfl) (by kernel_rfl) (fun _ _ _ h => h) (by kernel_rfl) (fun _ => ex_move _ _ rfl (by kernel_rfl)) ?_
      simp only [Act.put, List.setIfInBounds_toArray, List.set_cons_zero, List.set_cons_succ]
      refine wpAny_at (i := 2) (v := .pointer (some ⟨b1, o1 + k * 3, none⟩)) (some 18) rfl rfl (by kernel_rfl) (by kernel_rfl) (by kernel_rfl) (fun _ _ _ h => h) (by kernel_rfl) (fun _ => ex_indexAddr 39 _ _ (.slice (some ⟨b1, o1, none⟩) xs.length c) (.int .i64 (k : Int)) _ rfl (by kernel_rfl) (by kernel_rfl) (by go_simp)) ?_
      simp only [Act.put, List.setIfInBounds_toArray, List.set_cons_zero, List.set_cons_succ]
      refine wpAny_at (i := 3) (v := .pointer (some ⟨b1, o1 + k * 3, none⟩)) (some 19) rfl rfl (by kernel_rfl) (by kernel_rfl) (by kernel_rfl) (fun _ _ _ h => h) (by kernel_rfl) (fun _ => ex_fieldAddr 46 _ 0 (.pointer (some ⟨b1, o1 + k * 3, none⟩)) _ rfl (by kernel_rfl) (by go_simp)) ?_
      simp only [Act.put, List.setIfInBounds_toArray, List.set_cons_zero, List.set_cons_succ]
      refine wpAny_at (i := 5) (v := .slice (some ⟨b2, o2, none⟩) xs.length c2) (some 21) rfl rfl (by kernel_rfl) (by kernel_rfl) (by kernel_rfl) (fun _ _ _ h => h) (by kernel_rfl) (fun _ => ex_move _ _ rfl (by kernel_rfl)) ?_
      simp only [Act.put, List.setIfInBounds_toArray, List.set_cons_zero, List.set_cons_succ]
      refine wpAny_at (i := 6) (v := .int .i64 (k : Int)) (some 22) rfl rfl (by kernel_rfl) (by kernel_rfl) (by kernel_rfl) (fun _ _ _ h => h) (by kernel_rfl) (fun _ => ex_move _ _ rfl (by kernel_rfl)) ?_
      simp only [Act.put, List.setIfInBounds_toArray, List.set_cons_zero, List.set_cons_succ]
      refine wpAny_at (i := 7) (v := .pointer (some ⟨b2, o2 + k * 3, none⟩)) (some 23) rfl rfl (by kernel_rfl) (by kernel_rfl) (by kernel_rfl) (fun _ _ _ h => h) (by kernel_rfl) (fun _ => ex_indexAddr 39 _ _ (.slice (some ⟨b2, o2, none⟩) xs.length c2) (.int .i64 (k : Int)) _ rfl (by kernel_rfl) (by kernel_rfl) (by go_simp)) ?_
      simp only [Act.put, List.setIfInBounds_toArray, List.set_cons_zero, List.set_cons_succ]
      refine wpAny_at (i := 8) (v := .pointer (some ⟨b2, o2 + k * 3, none⟩)) (some 24) rfl rfl (by kernel_rfl) (by kernel_rfl) (by kernel_rfl) (fun _ _ _ h => h) (by kernel_rfl) (fun _ => ex_fieldAddr 46 _ 0 (.pointer (some ⟨b2, o2 + k * 3, none⟩)) _ rfl (by kernel_rfl) (by go_simp)) ?_
      simp only [Act.put, List.setIfInBounds_toArray, List.set_cons_zero, List.set_cons_succ]
      refine wpAny_both 4 9 20 25 (.string nm) (.string nm) (by kernel_rfl) (by kernel_rfl) (by kernel_rfl) rfl rfl rfl rfl (by decide) (by decide) (by kernel_rfl) (by kernel_rfl) (by kernel_rfl) (by kernel_rfl) (ex_load 9 _ (.pointer (some ⟨b1, o1 + k * 3, none⟩)) _ rfl (by kernel_rfl) (ld_str (w := wr.drew) y0)) (ex_load 9 _ (.pointer (some ⟨b2, o2 + k * 3, none⟩)) _ rfl (by kernel_rfl) (ld_str (w := wr.drew) z0)) (ex_load 9 _ (.pointer (some ⟨b1, o1 + k * 3, none⟩)) _ rfl (by kernel_rfl) (ld_str (w := wr.drew) y0)) (ex_load 9 _ (.pointer (some ⟨b2, o2 + k * 3, none⟩)) _ rfl (by kernel_rfl) (ld_str (w := wr.drew) z0)) rfl ?_
      simp only [Act.put, List.setIfInBounds_toArray, List.set_cons_zero, List.set_cons_succ]
      refine wpAny_at (i := 10) (v := .bool false) (some 26) rfl rfl (by kernel_rfl) (by kernel_rfl) (by kernel_rfl) (fun _ _ _ h => h) (by kernel_rfl) (fun _ => ex_binOp .neq 9 9 _ _ (.string nm) (.string nm) _ rfl (by kernel_rfl) (by kernel_rfl) (by go_simp)) ?_
      simp only [Act.put, List.setIfInBounds_toArray, List.set_cons_zero, List.set_cons_succ]
      refine wpAny_at (i := 11) (v := .bool false) (some 27) rfl rfl (by kernel_rfl) (by kernel_rfl) (by kernel_rfl) (fun _ _ _ h => h) (by kernel_rfl) (fun _ => ex_move _ _ rfl (by kernel_rfl)) ?_
      simp only [Act.put, List.setIfInBounds_toArray, List.set_cons_zero, List.set_cons_succ]
      refine wpAny_at (i := 12) (v := .slice (some ⟨b1, o1, none⟩) xs.length c) (some 28) rfl rfl (by kernel_rfl) (by kernel_rfl) (by kernel_rfl) (fun _ _ _ h => h) (by kernel_rfl) (fun _ => ex_move _ _ rfl (by kernel_rfl)) ?_
      simp only [Act.put, List.setIfInBounds_toArray, List.set_cons_zero, List.set_cons_succ]
      refine wpAny_at (i := 13) (v := .int .i64 (k : Int)) (some 29) rfl rfl (by kernel_rfl) (by kernel_rfl) (by kernel_rfl) (fun _ _ _ h => h) (by kernel_rfl) (fun _ => ex_move _ _ rfl (by kernel_rfl)) ?_
      simp only [Act.put, List.setIfInBounds_toArray, List.set_cons_zero, List.set_cons_succ]
      refine wpAny_at (i := 14) (v := .pointer (some ⟨b1, o1 + k * 3, none⟩)) (some 30) rfl rfl (by kernel_rfl) (by kernel_rfl) (by kernel_rfl) (fun _ _ _ h => h) (by kernel_rfl) (fun _ => ex_indexAddr 39 _ _ (.slice (some ⟨b1, o1, none⟩) xs.length c) (.int .i64 (k : Int)) _ rfl (by kernel_rfl) (by kernel_rfl) (by go_simp)) ?_
      simp only [Act.put, List.setIfInBounds_toArray, List.set_cons_zero, List.set_cons_succ]
      refine wpAny_at (i := 15) (v := .pointer (some ⟨b1, o1 + k * 3 + 1, none⟩)) (some 31) rfl rfl (by kernel_rfl) (by kernel_rfl) (by kernel_rfl) (fun _ _ _ h => h) (by kernel_rfl) (fun _ => ex_fieldAddr 46 _ 1 (.pointer (some ⟨b1, o1 + k * 3, none⟩)) _ rfl (by kernel_rfl) (by go_simp)) ?_
      simp only [Act.put, List.setIfInBounds_toArray, List.set_cons_zero, List.set_cons_succ]
      refine wpAny_at (i := 17) (v := .slice (some ⟨b2, o2, none⟩) xs.length c2) (some 33) rfl rfl (by kernel_rfl) (by kernel_rfl) (by kernel_rfl) (fun _ _ _ h => h) (by kernel_rfl) (fun _ => ex_move _ _ rfl (by kernel_rfl)) ?_
      simp only [Act.put, List.setIfInBounds_toArray, List.set_cons_zero, List.set_cons_succ]
      refine wpAny_at (i := 18) (v := .int .i64 (k : Int)) (some 34) rfl rfl (by kernel_rfl) (by kernel_rfl) (by kernel_rfl) (fun _ _ _ h => h) (by kernel_rfl) (fun _ => ex_move _ _ rfl (by kernel_rfl)) ?_
      simp only [Act.put, List.setIfInBounds_toArray, List.set_cons_zero, List.set_cons_succ]
      refine wpAny_at (i := 19) (v := .pointer (some ⟨b2, o2 + k * 3, none⟩)) (some 35) rfl rfl (by kernel_rfl) (by kernel_rfl) (by kernel_rfl) (fun _ _ _ h => h) (by kernel_rfl) (fun _ => ex_indexAddr 39 _ _ (.slice (some ⟨b2, o2, none⟩) xs.length c2) (.int .i64 (k : Int)) _ rfl (by kernel_rfl) (by kernel_rfl) (by go_simp)) ?_
      simp only [Act.put, List.setIfInBounds_toArray, List.set_cons_zero, List.set_cons_succ]
      refine wpAny_at (i := 20) (v := .pointer (some ⟨b2, o2 + k * 3 + 1, none⟩)) (some 36) rfl rfl (by kernel_rfl) (by kernel_rfl) (by kernel_rfl) (fun _ _ _ h => h) (by kernel_rfl) (fun _ => ex_fieldAddr 46 _ 1 (.pointer (some ⟨b2, o2 + k * 3, none⟩)) _ rfl (by kernel_rfl) (by go_simp)) ?_
      simp only [Act.put, List.setIfInBounds_toArray, List.set_cons_zero, List.set_cons_succ]
      refine wpAny_both 16 21 32 37 (.string pa) (.string pa) (by kernel_rfl) (by kernel_rfl) (by kernel_rfl) rfl rfl rfl rfl (by decide) (by decide) (by kernel_rfl) (by kernel_rfl) (by kernel_rfl) (by kernel_rfl) (ex_load 9 _ (.pointer (some ⟨b1, o1 + k * 3 + 1, none⟩)) _ rfl (by kernel_rfl) (ld_str (w := wr.drew) y1)) (ex_load 9 _ (.pointer (some ⟨b2, o2 + k * 3 + 1, none⟩)) _ rfl (by kernel_rfl) (ld_str (w := wr.drew) z1)) (ex_load 9 _ (.pointer (some ⟨b1, o1 + k * 3 + 1, none⟩)) _ rfl (by kernel_rfl) (ld_str (w := wr.drew) y1)) (ex_load 9 _ (.pointer (some ⟨b2, o2 + k * 3 + 1, none⟩)) _ rfl (by kernel_rfl) (ld_str (w := wr.drew) z1)) rfl ?_
      simp only [Act.put, List.setIfInBounds_toArray, List.set_cons_zero, List.set_cons_succ]
      refine wpAny_at (i := 22) (v := .bool false) (some 38) rfl rfl (by kernel_rfl) (by kernel_rfl) (by kernel_rfl) (fun _ _ _ h => h) (by kernel_rfl) (fun _ => ex_binOp .neq 9 9 _ _ (.string pa) (.string pa) _ rfl (by kernel_rfl) (by kernel_rfl) (by go_simp)) ?_
      simp only [Act.put, List.setIfInBounds_toArray, List.set_cons_zero, List.set_cons_succ]
      refine wpAny_at (i := 23) (v := .bool false) (some 39) rfl rfl (by kernel_rfl) (by kernel_rfl) (by kernel_rfl) (fun _ _ _ h => h) (by kernel_rfl) (fun _ => ex_pick _ _ _ false (.bool true) (.bool false) rfl (by kernel_rfl) (by kernel_rfl) (by kernel_rfl)) ?_
      simp only [Act.put, List.setIfInBounds_toArray, List.set_cons_zero, List.set_cons_succ]
      refine wpAny_at (i := 24) (v := .bool false) (some 40) rfl rfl (by kernel_rfl) (by kernel_rfl) (by kernel_rfl) (fun _ _ _ h => h) (by kernel_rfl) (fun _ => ex_move _ _ rfl (by kernel_rfl)) ?_
      simp only [Act.put, List.setIfInBounds_toArray, List.set_cons_zero, List.set_cons_succ]
      refine wpAny_at (i := 25) (v := .slice (some ⟨b1, o1, none⟩) xs.length c) (some 41) rfl rfl (by kernel_rfl) (by kernel_rfl) (by kernel_rfl) (fun _ _ _ h => h) (by kernel_rfl) (fun _ => ex_move _ _ rfl (by kernel_rfl)) ?_
      simp only [Act.put, List.setIfInBounds_toArray, List.set_cons_zero, List.set_cons_succ]
      refine wpAny_at (i := 26) (v := .int .i64 (k : Int)) (some 42) rfl rfl (by kernel_rfl) (by kernel_rfl) (by kernel_rfl) (fun _ _ _ h => h) (by kernel_rfl) (fun _ => ex_move _ _ rfl (by kernel_rfl)) ?_
      simp only [Act.put, List.setIfInBounds_toArray, List.set_cons_zero, List.set_cons_succ]
      refine wpAny_at (i := 27) (v := .pointer (some ⟨b1, o1 + k * 3, none⟩)) (some 43) rfl rfl (by kernel_rfl) (by kernel_rfl) (by kernel_rfl) (fun _ _ _ h => h) (by kernel_rfl) (fun _ => ex_indexAddr 39 _ _ (.slice (some ⟨b1, o1, none⟩) xs.length c) (.int .i64 (k : Int)) _ rfl (by kernel_rfl) (by kernel_rfl) (by go_simp)) ?_
      simp only [Act.put, List.setIfInBounds_toArray, List.set_cons_zero, List.set_cons_succ]
      refine wpAny_at (i := 28) (v := .pointer (some ⟨b1, o1 + k * 3 + 2, none⟩)) (some 44) rfl rfl (by kernel_rfl) (by kernel_rfl) (by kernel_rfl) (fun _ _ _ h => h) (by kernel_rfl) (fun _ => ex_fieldAddr 46 _ 2 (.pointer (some ⟨b1, o1 + k * 3, none⟩)) _ rfl (by kernel_rfl) (by go_simp)) ?_
      simp only [Act.put, List.setIfInBounds_toArray, List.set_cons_zero, List.set_cons_succ]
      refine wpAny_at (i := 30) (v := .slice (some ⟨b2, o2, none⟩) xs.length c2) (some 46) rfl rfl (by kernel_rfl) (by kernel_rfl) (by kernel_rfl) (fun _ _ _ h => h) (by kernel_rfl) (fun _ => ex_move _ _ rfl (by kernel_rfl)) ?_
      simp only [Act.put, List.setIfInBounds_toArray, List.set_cons_zero, List.set_cons_succ]
      refine wpAny_at (i := 31) (v := .int .i64 (k : Int)) (some 47) rfl rfl (by kernel_rfl) (by kernel_rfl) (by kernel_rfl) (fun _ _ _ h => h) (by kernel_rfl) (fun _ => ex_move _ _ rfl (by kernel_rfl)) ?_
      simp only [Act.put, List.setIfInBounds_toArray, List.set_cons_zero, List.set_cons_succ]
      refine wpAny_at (i := 32) (v := .pointer (some ⟨b2, o2 + k * 3, none⟩)) (some 48) rfl rfl (by kernel_rfl) (by kernel_rfl) (by kernel_rfl) (fun _ _ _ h => h) (by kernel_rfl) (fun _ => ex_indexAddr 39 _ _ (.slice (some ⟨b2, o2, none⟩) xs.length c2) (.int .i64 (k : Int)) _ rfl (by kernel_rfl) (by kernel_rfl) (by go_simp)) ?_
      simp only [Act.put, List.setIfInBounds_toArray, List.set_cons_zero, List.set_cons_succ]
      refine wpAny_at (i := 33) (v := .pointer (some ⟨b2, o2 + k * 3 + 2, none⟩)) (some 49) rfl rfl (by kernel_rfl) (by kernel_rfl) (by kernel_rfl) (fun _ _ _ h => h) (by kernel_rfl) (fun _ => ex_fieldAddr 46 _ 2 (.pointer (some ⟨b2, o2 + k * 3, none⟩)) _ rfl (by kernel_rfl) (by go_simp)) ?_
      simp only [Act.put, List.setIfInBounds_toArray, List.set_cons_zero, List.set_cons_succ]
      refine wpAny_both 29 34 45 50 (.slice rA rn rc) (.slice r2A rn2 r2c) (by kernel_rfl) (by kernel_rfl) (by kernel_rfl) rfl rfl rfl rfl (by decide) (by decide) (by kernel_rfl) (by kernel_rfl) (by kernel_rfl) (by kernel_rfl) (ex_load 31 _ (.pointer (some ⟨b1, o1 + k * 3 + 2, none⟩)) _ rfl (by kernel_rfl) (ld_rules (w := wr.drew) y2)) (ex_load 31 _ (.pointer (some ⟨b2, o2 + k * 3 + 2, none⟩)) _ rfl (by kernel_rfl) (ld_rules (w := wr.drew) z2)) (ex_load 31 _ (.pointer (some ⟨b1, o1 + k * 3 + 2, none⟩)) _ rfl (by kernel_rfl) (ld_rules (w := wr.drew) y2)) (ex_load 31 _ (.pointer (some ⟨b2, o2 + k * 3 + 2, none⟩)) _ rfl (by kernel_rfl) (ld_rules (w := wr.drew) z2)) rfl ?_
      simp only [Act.put, List.setIfInBounds_toArray, List.set_cons_zero, List.set_cons_succ]
      refine wpAny_call 35 (some 51) (by kernel_rfl) rfl rfl (by kernel_rfl) 41 (#[.slice rA rn rc, .slice r2A rn2 r2c]) (by go_simp) (HS1.out _ (below_drewN (Below.refl _ wr) 1)) ?_
      rintro e wa ⟨rfl, hba⟩
      refine ⟨_, rfl, ?_⟩
      have hx5 := (below_drewN (Below.refl wr.heap.size wr) 1).trans hba
      simp only [Act.put, List.setIfInBounds_toArray, List.set_cons_zero, List.set_cons_succ]
      refine wpAny_at (i := 36) (v := .bool false) (some 52) rfl rfl (by kernel_rfl) (by kernel_rfl) (by kernel_rfl) (fun _ _ _ h => h) (by kernel_rfl) (fun _ => ex_unOp .not 4 _ (.bool true) _ rfl (by kernel_rfl) (by go_simp)) ?_
      simp only [Act.put, List.setIfInBounds_toArray, List.set_cons_zero, List.set_cons_succ]
      refine wpAny_at (i := 37) (v := .bool false) (some 53) rfl rfl (by kernel_rfl) (by kernel_rfl) (by kernel_rfl) (fun _ _ _ h => h) (by kernel_rfl) (fun _ => ex_pick _ _ _ false (.bool true) (.bool false) rfl (by kernel_rfl) (by kernel_rfl) (by kernel_rfl)) ?_
      simp only [Act.put, List.setIfInBounds_toArray, List.set_cons_zero, List.set_cons_succ]
      refine wpAny_done (by kernel_rfl) ?_ _
      have HB5 := Lib.hid (HB.out.trans (hx5.mono hz))
      clear hx5 hba
      go_wp2_with fail
      go_roundg (xs.length - (k + 1))
      case measure => omega
      case rel => exact ⟨k + 1, by go_num, by omega, HB5.out, Nat.le_refl _⟩
    · obtain rfl : k = xs.length := by omega
      have hki : ¬ (xs.length : Int) < (xs.length : Int) := by omega
      go_wp2_with fail
      rw [HRR.out]
      exact ⟨rfl, HB.out⟩

end Go.Proofs.YtpboaadjbkaidaaDoor

namespace Go.Proofs.YtpboaadjbkaidaaDoor
set_option maxRecDepth 100000

def rulesV : List Ru → Int
  | [] => 0
  | r :: rs => if validF r.bf ≠ 0 then validF r.bf else if validF r.af ≠ 0 then validF r.af else rulesV rs
def validGo : List Tb → List Tb → Int
  | _, [] => 0
  | seen, t :: ts =>
    if nameL t.nm.data.toList = false ∨ (t.pa.data.toList ≠ [] ∧ nameL t.pa.data.toList = false) then 4
    else if seen.any (fun u => u.nm.data.toList == t.nm.data.toList) = true then 5
    else if 32 < t.rs.length then 3
    else if rulesV t.rs ≠ 0 then rulesV t.rs
    else validGo (seen ++ [t]) ts
def validT (ts : List Tb) : Int := if 16 < ts.length then 3 else validGo [] ts

/-- A pattern that is valid. -/
def PatOk (p : List At) : Prop := p.length ≤ 32 ∧ ∀ x ∈ p, x.mn = 0 ∨ x.mn = 1
theorem PatOk.nil : PatOk [] := ⟨Nat.zero_le _, fun _ h => by simp at h⟩
theorem PatOk.valid {p : List At} (h : PatOk p) : validF p = 0 := by
  unfold validF
  rw [if_neg (by have := h.1; omega), if_pos]
  rw [List.all_eq_true]
  intro x hx
  rcases h.2 x hx with e | e
  · rw [e]; rfl
  · rw [e]; rfl
theorem quantF_mn (s : ByteArray) (j : Nat) : (quantF s j).1 = 0 ∨ (quantF s j).1 = 1 := by
  unfold quantF
  split
  · split
    · exact .inl rfl
    · split
      · exact .inr rfl
      · split
        · exact .inl rfl
        · exact .inr rfl
  · exact .inr rfl
theorem parseL_ok (s : ByteArray) : ∀ (f i : Nat) (l : List At), PatOk l → PatOk (parseL s f i l).1
  | 0, _, l, h => h
  | f + 1, i, l, h => by
    rw [parseL]
    split
    · split
      · exact PatOk.nil
      · rename_i h32
        split
        · exact PatOk.nil
        · refine parseL_ok s f _ _ ⟨by simp; omega, fun x hx => ?_⟩
          rcases List.mem_append.1 hx with hx | hx
          · exact h.2 x hx
          · rw [List.mem_singleton.1 hx]
            exact quantF_mn s _
    · exact h
theorem parseF_ok (s : ByteArray) : PatOk (parseF s).1 := parseL_ok s _ _ _ PatOk.nil
theorem sideF_ok (w : List UInt8) : PatOk (sideF w).1 := by
  unfold sideF
  split
  · exact PatOk.nil
  · exact parseF_ok _
def RuFine (r : Ru) : Prop := PatOk r.bf ∧ PatOk r.af
def TbFine (t : Tb) : Prop := nameL t.nm.data.toList = true ∧ (t.pa.data.toList = [] ∨ nameL t.pa.data.toList = true) ∧ t.rs.length ≤ 32 ∧ ∀ r ∈ t.rs, RuFine r
def TsFine (ts : List Tb) : Prop := ts.length ≤ 16 ∧ (∀ t ∈ ts, TbFine t) ∧ ts.Pairwise fun t u => t.nm.data.toList ≠ u.nm.data.toList
theorem TsFine.nil : TsFine [] := ⟨Nat.zero_le _, fun _ h => by simp at h, List.Pairwise.nil⟩
theorem tableF_fine (ts : List Tb) (w : List (List UInt8)) (h : TsFine ts) : TsFine (tableF ts w).1 := by
  unfold tableF
  split
  · exact TsFine.nil
  · split
    · exact TsFine.nil
    · rename_i hn
      split
      · exact TsFine.nil
      · rename_i hd
        split
        · exact TsFine.nil
        · rename_i h16
          have h1 : nameL (w.getD 1 []) = true := by
            cases e : nameL (w.getD 1 []) with
            | true => rfl
            | false => exact absurd (.inl e) hn
          refine ⟨by simp; omega, fun t ht => ?_, ?_⟩
          · rcases List.mem_append.1 ht with ht | ht
            · exact h.2.1 t ht
            · rw [List.mem_singleton.1 ht]
              refine ⟨by rw [ofL_list]; exact h1, ?_, Nat.zero_le _, fun _ h => by simp at h⟩
              show (if w.length = 3 then ofL (w.getD 2 []) else ofL []).data.toList = [] ∨ nameL (if w.length = 3 then ofL (w.getD 2 []) else ofL []).data.toList = true
              split
              · rename_i h3
                right
                rw [ofL_list]
                cases e : nameL (w.getD 2 []) with
                | true => rfl
                | false => exact absurd (.inr ⟨h3, e⟩) hn
              · left; rfl
          · rw [List.pairwise_append]
            refine ⟨h.2.2, by simp, fun t ht u hu => ?_⟩
            rw [List.mem_singleton.1 hu]
            intro e
            refine hd (List.any_eq_true.2 ⟨t, ht, ?_⟩)
            rw [ofL_list] at e
            rw [e]
            exact beq_self_eq_true _
theorem addLast_mem (r : Ru) : ∀ (ts : List Tb) (t : Tb), t ∈ addLast ts r → t ∈ ts ∨ ∃ u, ts.getLast? = some u ∧ t = ⟨u.nm, u.pa, u.rs ++ [r]⟩
  | [], t, h => by simp [addLast] at h
  | [a], t, h => by
    right
    exact ⟨a, rfl, by simpa [addLast] using h⟩
  | a :: b :: ts, t, h => by
    rw [addLast] at h
    rcases List.mem_cons.1 h with rfl | h
    · exact .inl (by simp)
    · rcases addLast_mem r (b :: ts) t h with h | ⟨u, h1, h2⟩
      · exact .inl (by simp at h ⊢; exact .inr h)
      · exact .inr ⟨u, by rw [List.getLast?_cons_cons]; exact h1, h2⟩
theorem addLast_names (r : Ru) : ∀ ts : List Tb, (addLast ts r).map (fun t => t.nm.data.toList) = ts.map fun t => t.nm.data.toList
  | [] => rfl
  | [_] => rfl
  | a :: b :: ts => by rw [addLast, List.map_cons, addLast_names r (b :: ts)]; rfl
theorem names_pair (ts : List Tb) : (ts.Pairwise fun t u => t.nm.data.toList ≠ u.nm.data.toList) ↔ (ts.map fun t => t.nm.data.toList).Pairwise (· ≠ ·) := by
  rw [List.pairwise_map]
theorem ruleF_fine (ts : List Tb) (w : List (List UInt8)) (h : TsFine ts) : TsFine (ruleF ts w).1 := by
  unfold ruleF
  split
  · exact TsFine.nil
  · split
    · exact TsFine.nil
    · split
      · exact TsFine.nil
      · split
        · exact TsFine.nil
        · split
          · exact TsFine.nil
          · rename_i h32
            refine ⟨by rw [addLast_len]; exact h.1, fun t ht => ?_, ?_⟩
            · rcases addLast_mem _ ts t ht with ht | ⟨u, hu, rfl⟩
              · exact h.2.1 t ht
              · rw [hu] at h32
                have hu2 := h.2.1 u (List.mem_of_getLast? hu)
                refine ⟨hu2.1, hu2.2.1, ?_, fun r hr => ?_⟩
                · simp only [Option.map_some, Option.getD_some] at h32
                  simp; omega
                · rcases List.mem_append.1 hr with hr | hr
                  · exact hu2.2.2.2 r hr
                  · rw [List.mem_singleton.1 hr]
                    exact ⟨sideF_ok _, sideF_ok _⟩
            · rw [names_pair, addLast_names, ← names_pair]
              exact h.2.2
theorem lineF_fine (ts : List Tb) (w : List (List UInt8)) (h : TsFine ts) : TsFine (lineF ts w).1 := by
  unfold lineF
  split
  · exact tableF_fine ts w h
  · split
    · exact ruleF_fine ts w h
    · exact TsFine.nil
theorem linesF_fine : ∀ (ls : List (List UInt8)) (n : Nat) (ts : List Tb), TsFine ts → TsFine (linesF ls n ts).1
  | [], _, _, h => h
  | s :: rest, n, ts, h => by
    rw [linesF]
    split
    · exact linesF_fine rest (n + 1) ts h
    · split
      · exact TsFine.nil
      · exact linesF_fine rest (n + 1) _ (lineF_fine ts _ h)
theorem rulesF_fine (s : ByteArray) : TsFine (rulesF s).1 := by
  unfold rulesF
  split
  · exact TsFine.nil
  · exact linesF_fine _ _ _ TsFine.nil

end Go.Proofs.YtpboaadjbkaidaaDoor

namespace Go.Proofs.YtpboaadjbkaidaaDoor
set_option maxRecDepth 100000
open Go.RowKit

theorem fine_small {ts : List Tb} (h : TsFine ts) : TbSmall ts := by
  refine ⟨Nat.le_trans h.1 (by decide), fun t ht => ⟨Nat.le_trans (h.2.1 t ht).2.2.1 (by decide), fun r hr => ?_⟩⟩
  have := (h.2.1 t ht).2.2.2 r hr
  exact ⟨Nat.le_trans this.1.1 (by decide), Nat.le_trans this.2.1 (by decide)⟩

end Go.Proofs.YtpboaadjbkaidaaDoor

namespace Go.Proofs.YtpboaadjbkaidaaDoor
set_option maxRecDepth 100000

def nlF (m : Nat) : ByteArray := ⟨(List.replicate m (10 : UInt8)).toArray⟩
theorem linesL_nl : ∀ m, linesL (List.replicate m 10) = List.replicate m []
  | 0 => rfl
  | m + 1 => by rw [List.replicate_succ, linesL, if_pos rfl, linesL_nl m, List.replicate_succ]
theorem linesF_nl (ts : List Tb) : ∀ m n, linesF (List.replicate m []) n ts = (ts, 0, 0)
  | 0, _ => by rw [List.replicate_zero, linesF]
  | m + 1, n => by
    rw [List.replicate_succ, linesF, if_pos (by decide), linesF_nl ts m]
theorem nlF_size (m : Nat) : (nlF m).size = m := by
  show (List.replicate m (10 : UInt8)).toArray.size = m
  simp
theorem rulesF_nl (m : Nat) : (rulesF (nlF m)).2.2 = if 65536 < m then 3 else 0 := by
  unfold rulesF
  rw [nlF_size]
  by_cases h : 65536 < m
  · rw [if_pos h, if_pos h]
  · rw [if_neg h, if_neg h]
    show (linesF (linesL (List.replicate m (10 : UInt8)).toArray.toList) 0 []).2.2 = 0
    rw [List.toList_toArray, linesL_nl, linesF_nl]

end Go.Proofs.YtpboaadjbkaidaaDoor

namespace Go.Proofs.YtpboaadjbkaidaaDoor
set_option maxRecDepth 100000
open Go.RowKit

end Go.Proofs.YtpboaadjbkaidaaDoor

namespace Go.Proofs.YtpboaadjbkaidaaDoor
set_option maxRecDepth 100000
open Go.RowKit

section
variable {P : Program} {ops : Array Oper} {w : World} {a : Act} {o : Oper}
theorem wp_of_valw {o : Oper} {v : Value} {w2 : World} {K : Act → World → Prop} {QE : Exit → Act → World → Prop} (hv : (execOp a.eval o).run P w = .ok (.value v) w2) (h : K (a.put o.dst v) w2) : Oper.wp P o a w K QE := by
  show Oper.upon _ _ _ _ _ _
  rw [hv]
  exact h
theorem wpAny_valw {md : Region.Mode} {QE : Exit → Act → World → Prop} (i : Nat) (d : Option Tmp) (v : Value) (w2 : World) {oi : Oper} {fuel : Nat} {listed : Array Bool} {rs : List Oper} (hr : Region.ready md ops listed = [i]) (hi : ops.toList.drop i = oi :: rs) (hd : oi.dst = d) (hw : Region.wanted oi (yielded ops a.tmps) = true)
    (hv : (execOp a.eval oi).run P w = .ok (.value v) w2) (h : wpAny P md ops QE fuel (listed.setIfInBounds i true) (a.put d v) w2) : wpAny P md ops QE (fuel + 1) listed a w := by
  subst hd
  exact wpAny_only i hr hi hw (wp_of_valw hv h)
end

end Go.Proofs.YtpboaadjbkaidaaDoor

namespace Go.Proofs.YtpboaadjbkaidaaDoor
set_option maxRecDepth 100000
open Go.RowKit Go.Maps

theorem valid_any2 (p : List At) (pv : Value) (w : World) (hp : RdE atC 34 w pv p) :
    Calls Tryd.prog 59 #[pv] w fun e w' => e = .returned (.int .i64 (validF p)) ∧ Below w.heap.size w w' := by
  by_cases h32 : 32 < p.length
  · obtain ⟨A, c, rfl, hlc, _⟩ := hp.shape
    have h32i : (32 : Int) < (p.length : Int) := by omega
    have HE : Hid (validF p = 3) := by show _ = _; unfold validF; rw [if_pos h32]
    rw [HE.out]
    go_enter Tryd.func59, Tryd.ntmps59
    go_wp2_with fail
    go_ret
    exact ⟨rfl, Below.refl _ _⟩
  · exact valid_any p pv w hp (by omega)
theorem rvalid_any2 (p : List At) (pv : Value) (w : World) (hp : RdE atC 34 w pv p) :
    Calls Tryd.prog 62 #[pv] w fun e w' => e = .returned (.int .i64 (validF p)) ∧ Below w.heap.size w w' := by
  by_cases h32 : 32 < p.length
  · obtain ⟨A, c, rfl, hlc, _⟩ := hp.shape
    have h32i : (32 : Int) < (p.length : Int) := by omega
    have HE : Hid (validF p = 3) := by show _ = _; unfold validF; rw [if_pos h32]
    rw [HE.out]
    go_enter Tryd.func62, Tryd.ntmps62
    go_wp2_with fail
    go_ret
    exact ⟨rfl, Below.refl _ _⟩
  · exact rvalid_any p pv w hp (by omega)

/-- Block b is a set of names. -/
def NameSet (w : World) (b n : Nat) (ns : List (List UInt8)) : Prop :=
  ∃ D : DataW Unit, w.ownsMap Tryd.prog 9 (plainElem Tryd.prog 4) b n D ∧ IsMap D ∧ ∀ s : ByteArray, s.size ≤ maxLen → D.atKey (.string s.data.toList) (.lit (.bool false)) = .lit (.bool (ns.any fun x => x == s.data.toList))
theorem str_keyed : Keyed Tryd.prog 9 := string_keyed Tryd.underlying9
theorem key_str (s : ByteArray) (h : s.size ≤ maxLen) : keyOf Tryd.prog 9 (.string s) = some (.string s.data.toList) := by
  unfold keyOf
  rw [Tryd.underlying9]
  simp [mapKey, Tryd.underlying9, h]
theorem zero_bool (w : World) : (zeroValue 4).run Tryd.prog w = .ok (.bool false) w := by kernel_rfl
theorem NameSet.made (w : World) : NameSet (w.alloc (.map #[] 0)) w.heap.size 0 [] :=
  ⟨_, World.ownsMap_made _ _ _ _, isMap_empty, fun _ _ => rfl⟩
theorem NameSet.lt {w : World} {b n : Nat} {ns : List (List UInt8)} (h : NameSet w b n ns) : b < w.heap.size := by
  obtain ⟨D, h1, _⟩ := h
  exact h1.lt
theorem NameSet.same {w w' : World} {b n : Nat} {ns : List (List UInt8)} (h : NameSet w b n ns) (e : w'.heap[b]? = w.heap[b]?) : NameSet w' b n ns := by
  obtain ⟨D, ⟨es, clock, hb, F, hs, hD⟩, h2⟩ := h
  exact ⟨D, ⟨es, clock, e.trans hb, F, hs, hD⟩, h2⟩
theorem plainElem_bool_inv {v : Value} {x : Bool} {ps : List MemPlace} (h : plainElem (H := Unit) Tryd.prog 4 v = some (.lit (.bool x), ps)) : v = .bool x := by
  unfold plainElem at h
  rw [Tryd.underlying4] at h
  cases v <;> simp_all
theorem NameSet.look {w : World} {b n : Nat} {ns : List (List UInt8)} (h : NameSet w b n ns) (s : ByteArray) (hs : s.size ≤ maxLen) :
    (Instr.lookup 94 (.map (some b)) (.string s) false).run Tryd.prog w = .ok (.bool (ns.any fun x => x == s.data.toList)) w := by
  obtain ⟨D, h1, h2, h3⟩ := h
  obtain ⟨v, ps, hlk, hR⟩ := h1.lookup str_keyed Tryd.underlying94 (zero_bool w) (plainElem_bool Tryd.underlying4 false) (key_str s hs)
  rw [h3 s hs] at hR
  rw [hlk, plainElem_bool_inv hR]
theorem NameSet.put {w : World} {b n : Nat} {ns : List (List UInt8)} (h : NameSet w b n ns) (s : ByteArray) (hs : s.size ≤ maxLen) (hn : n < maxLen) :
    ∃ w2, (Instr.mapUpdate 94 (.map (some b)) (.string s) (.bool true)).run Tryd.prog w = .ok () w2 ∧ NameSet w2 b (n + 1) (ns ++ [s.data.toList]) ∧ w.grownBy w2 (some b) := by
  obtain ⟨D, h1, h2, h3⟩ := h
  have hkey := key_str s hs
  obtain ⟨w2, hup, hown, hg⟩ := h1.update str_keyed Tryd.underlying94 hn hkey (plainElem_bool (H := Unit) Tryd.underlying4 true)
  refine ⟨w2, hup, ⟨_, hown, h2.put _ _, fun u hu => ?_⟩, hg⟩
  by_cases e : u.data.toList = s.data.toList
  · rw [e, atKey_put_same h2 (str_keyed.key hkey)]
    simp
  · rw [atKey_put_other (fun e' => e (by injection e'))]
    rw [h3 u hu]
    simp
    intro e'
    exact absurd (by rw [e']) e

end Go.Proofs.YtpboaadjbkaidaaDoor

namespace Go.Proofs.YtpboaadjbkaidaaDoor
set_option maxRecDepth 100000
open Go.RowKit Go.Maps

/-- What tables in memory keep to: each text and list has a length. -/
def TbIn (ts : List Tb) : Prop := ts.length ≤ maxLen ∧ ∀ t ∈ ts, t.nm.size ≤ maxLen ∧ t.pa.size ≤ maxLen
def IntRet (w : World) (x : Int) (e : Ending) (w' : World) : Prop := e = .returned (.int .i64 x) ∧ Below w.heap.size w w'
theorem validGo_step (seen : List Tb) (t : Tb) (ts : List Tb) : validGo seen (t :: ts) = if nameL t.nm.data.toList = false ∨ (t.pa.data.toList ≠ [] ∧ nameL t.pa.data.toList = false) then 4 else if seen.any (fun u => u.nm.data.toList == t.nm.data.toList) = true then 5 else if 32 < t.rs.length then 3 else if rulesV t.rs ≠ 0 then rulesV t.rs else validGo (seen ++ [t]) ts := rfl
theorem rulesV_step (r : Ru) (rs : List Ru) : rulesV (r :: rs) = if validF r.bf ≠ 0 then validF r.bf else if validF r.af ≠ 0 then validF r.af else rulesV rs := rfl
theorem ld_str0 {w : World} {b o : Nat} {x : ByteArray} (h : w.cell? ⟨b, o, none⟩ = some (.string x)) : (Instr.loadAt 9 (.pointer (some ⟨b, o, none⟩))).run Tryd.prog w = .ok (.string x) w := by
  go_simp
theorem RdTb.take {w : World} {A : Option Addr} {n c : Nat} {ts : List Tb} (h : RdTb w (.slice A n c) ts) (k : Nat) (hk : k ≤ ts.length) : RdTb w (.slice A k c) (ts.take k) := by
  obtain ⟨xs, h1, h2, h3⟩ := h
  refine ⟨xs.take k, h1.take k (by omega), by simp [h2], fun i x t hx ht => ?_⟩
  have hi : i < k := by
    have := (List.getElem?_eq_some_iff.1 hx).1
    simp at this
    omega
  rw [List.getElem?_take_of_lt hi] at hx ht
  exact h3 i x t hx ht
theorem run_tables_to (A : Option Addr) (n c k : Nat) (hk : k ≤ n) (hn : n ≤ c) (w : World) : (Instr.sliceAt 39 (.slice A n c) none (some (.int .i64 (k : Int))) none).run Tryd.prog w = .ok (.slice A k c) w := by
  have hel : Tryd.prog.underlying 39 = some (.slice (Tryd.prog.elem 39)) := by kernel_rfl
  have h1 : (k : Int) ≤ (c : Int) := by omega
  have h2 : (0 : Int) ≤ (k : Int) := by omega
  have h3 : (k : Int) ≤ (n : Int) := by omega
  have hsz : ∀ W : World, (sizeOf (Tryd.prog.elem 39)).run Tryd.prog W = .ok 3 W := fun W => by kernel_rfl
  have e : (if c = 0 then A else A.map (·.add (0 * 3))) = A := by
    split
    · rfl
    · rcases A with _ | ⟨b, o, sp⟩ <;> simp [Addr.add]
  rw [run_sliceAt_slice (h := hel), run_slice_h _ _ _ _ _ hel .i64 (k : Int) (by omega) (by omega), hsz]
  simp only [Result.andThen, sliced, Int.toNat_natCast, Nat.sub_zero, e]


set_option maxRecDepth 100000 in
set_option maxHeartbeats 16000000 in
theorem segValidate_any (ts : List Tb) (v : Value) (w : World) (ht : RdTb w v ts) (hin : TbIn ts) :
    Calls Tryd.prog 23 #[v] w (IntRet w (validT ts)) := by
  obtain ⟨V, HV⟩ : ∃ V, Hid (V = validT ts) := ⟨_, rfl⟩
  rw [← HV.out]
  obtain ⟨R, HRR⟩ : ∃ R, Hid (R = IntRet w V) := ⟨_, rfl⟩
  rw [← HRR.out]
  have HT := Lib.hid ht
  obtain ⟨xs, hx0, hxl, hx⟩ := ht
  have hxa : xs.length ≤ ts.length := Nat.le_of_eq hxl
  have hxb : ts.length ≤ xs.length := Nat.le_of_eq hxl.symm
  rw [show v = v from rfl] at HT
  obtain ⟨A, c, hv, hlc, _⟩ := hx0.shape
  subst hv
  by_cases h16 : 16 < xs.length
  · have h16i : (16 : Int) < (xs.length : Int) := by omega
    have e0 : V = 3 := by rw [HV.out]; unfold validT; rw [if_pos (by omega)]
    go_enter Tryd.func23, Tryd.ntmps23
    go_wp2_with fail
    rw [HRR.out, e0]
    exact ⟨rfl, Below.refl _ _⟩
  have h16i : ¬ (16 : Int) < (xs.length : Int) := by omega
  have HV0 : Hid (validGo [] ts = V) := by show _ = _; rw [HV.out]; unfold validT; rw [if_neg (by omega)]
  have HX := Lib.hid hx0
  have HXR := Lib.hid hx
  have HIN := Lib.hid hin.2
  clear hx0 hx hxl HV hin
  have hu := Tryd.underlying46
  have hi : (Tryd.prog.info? 46).map (·.size) = some 3 := table_size
  have hur := Tryd.underlying30
  have hir : (Tryd.prog.info? 30).map (·.size) = some 3 := by kernel_rfl
  have HM0 : Hid (NameSet (w.alloc (.map #[] 0)) w.heap.size 0 []) := NameSet.made w
  have HB0 := Lib.hid ((Below.refl w.heap.size w).alloc (Nat.le_refl _) (.map #[] 0))
  have hmm : (Instr.makeMap 94 none).run Tryd.prog w = .ok (.map (some w.heap.size)) (w.alloc (.map #[] 0)) := rfl
  go_enter Tryd.func23, Tryd.ntmps23
  go_upto_region 4 with fail
  generalize hM : w.heap.size = M at HM0 ⊢
  generalize w.alloc (.map #[] 0) = w0 at HM0 HB0 ⊢
  have hMw : w.heap.size ≤ M := by omega
  clear hM
  go_wp2_with fail
  obtain ⟨wo, HWO⟩ : ∃ wo, Hid (wo = w0) := ⟨w0, rfl⟩
  go_loopg [16] xs.length (fun gk kv wr => ∃ k : Nat, kv = .int .i64 k ∧ k ≤ xs.length ∧ Hid (validGo (ts.take k) (ts.drop k) = V) ∧ Hid (NameSet wr M k ((ts.take k).map fun t => t.nm.data.toList)) ∧ Hid (Below w.heap.size w wr) ∧ xs.length - k ≤ gk)
  case atStart => exact ⟨0, rfl, by omega, HV0.out, HM0.out, HB0.out, by omega⟩
  case round =>
    clear HWO HV0 HB0 HM0
    obtain ⟨k, rfl, hk, HV, HM, HB, hgk⟩ := hrel
    by_cases hkl : k < xs.length
    · have hki : (k : Int) < (xs.length : Int) := by omega
      have hk0 : (0 : Int) ≤ (k : Int) := by omega
      obtain ⟨b, o, rfl, hbl, hcell⟩ := HX.out.cells (by omega)
      have hkt : k < ts.length := by omega
      have hxk : xs[k]? = some xs[k] := List.getElem?_eq_getElem hkl
      have htk : ts[k]? = some (ts[k]'hkt) := List.getElem?_eq_getElem hkt
      have hrg : wr.rangeAt b (o + k * 3) (tbC xs[k]) := fun j v hj => by
        rw [Nat.add_assoc]
        exact (HB.out.cell (p := ⟨b, o + (k * 3 + j), none⟩) hbl).trans (hcell k _ j v hxk hj)
      obtain ⟨hnm, hpa, hru⟩ := HXR.out k _ _ hxk htk
      obtain ⟨hns, hps⟩ := HIN.out _ (List.getElem_mem hkt)
      have HV2 := Lib.hid ((show validGo (ts.take k) (ts[k]'hkt :: ts.drop (k + 1)) = V by rw [← List.drop_eq_getElem_cons hkt]; exact HV.out))
      rw [validGo_step] at HV2
      have HTK : Hid (ts.take (k + 1) = ts.take k ++ [ts[k]'hkt]) := List.take_succ_eq_append_getElem hkt
      have HU1 := Lib.hid hru
      clear hcell hxk htk hru HV
      generalize xs[k] = x at hrg HU1 hnm hpa
      generalize ts[k]'hkt = t at HU1 hnm hpa hns hps HV2 HTK
      obtain ⟨nm, pa, ⟨rA, rn, rc⟩⟩ := x
      obtain ⟨tnm, tpa, trs⟩ := t
      simp only at hnm hpa hns hps HV2
      subst hnm hpa
      change Hid (RdRu w (.slice rA rn rc) trs) at HU1
      obtain ⟨rA', rc', hrs⟩ := HU1.out.shape
      have hrn : rn = trs.length := by injection hrs
      subst hrn
      clear hrs
      have hz := HB.out.size
      have HA1 : Hid (((wr.alloc (.cells #[.string ⟨#[]⟩, .string ⟨#[]⟩, .slice none 0 0] 46)).setRow wr.heap.size (tbC ⟨nm, pa, ⟨rA, trs.length, rc⟩⟩).toArray).heap[wr.heap.size]? = some (.cells (tbC ⟨nm, pa, ⟨rA, trs.length, rc⟩⟩).toArray 46)) := setRow_heap _ _ _ _ _ _ (heap_alloc_new wr _)
      have HB1 : Hid (Below w.heap.size w ((wr.alloc (.cells #[.string ⟨#[]⟩, .string ⟨#[]⟩, .slice none 0 0] 46)).setRow wr.heap.size (tbC ⟨nm, pa, ⟨rA, trs.length, rc⟩⟩).toArray)) := below_setRow (HB.out.alloc hz _) hz _
      have HN1 : Hid (Below wr.heap.size wr ((wr.alloc (.cells #[.string ⟨#[]⟩, .string ⟨#[]⟩, .slice none 0 0] 46)).setRow wr.heap.size (tbC ⟨nm, pa, ⟨rA, trs.length, rc⟩⟩).toArray)) := below_setRow ((Below.refl _ wr).alloc (Nat.le_refl _) _) (Nat.le_refl _) _
      go_upto_region 7 with (first
        | (refine wpList_load_mid rfl 46 (.tmp 18) rfl b (o + k * 3) rfl (tbC ⟨nm, pa, ⟨rA, trs.length, rc⟩⟩) _ hrg hu rfl (by rw [hi]; rfl) ?_)
        | (refine wpList_store_row rfl 46 (.tmp 5) (.tmp 19) rfl (wr.heap.size) (tbC ⟨nm, pa, ⟨rA, trs.length, rc⟩⟩).toArray rfl rfl 46 _ (heap_alloc_new wr _) (by rw [table_size]; rfl) rfl (tbC_oneA ⟨nm, pa, ⟨rA, trs.length, rc⟩⟩) ?_))
      have hg3 : wr.heap.size < ((wr.alloc (.cells #[.string ⟨#[]⟩, .string ⟨#[]⟩, .slice none 0 0] 46)).setRow wr.heap.size (tbC ⟨nm, pa, ⟨rA, trs.length, rc⟩⟩).toArray).heap.size := (Array.getElem?_eq_some_iff.1 HA1.out).1
      have HM1 : Hid (NameSet ((wr.alloc (.cells #[.string ⟨#[]⟩, .string ⟨#[]⟩, .slice none 0 0] 46)).setRow wr.heap.size (tbC ⟨nm, pa, ⟨rA, trs.length, rc⟩⟩).toArray) M k ((ts.take k).map fun t => t.nm.data.toList)) := Lib.hid (HM.out.same (HN1.out.block M HM.out.lt))
      have hMg : M < wr.heap.size := HM.out.lt
      clear HB hrg HN1 HM
      generalize wr.heap.size = g3 at HA1 HB1 hz hg3 HM1 hMg ⊢
      generalize (wr.alloc (.cells #[.string ⟨#[]⟩, .string ⟨#[]⟩, .slice none 0 0] 46)).setRow g3 (tbC ⟨nm, pa, ⟨rA, trs.length, rc⟩⟩).toArray = w2 at HA1 HB1 hg3 HM1 ⊢
      have q0 : w2.cell? ⟨g3, 0, none⟩ = some (.string nm) := by rw [cell_of_row _ _ _ _ _ _ HA1.out]; rfl
      have q1 : w2.cell? ⟨g3, 1, none⟩ = some (.string pa) := by rw [cell_of_row _ _ _ _ _ _ HA1.out]; rfl
      have q2 : w2.cell? ⟨g3, 2, none⟩ = some (.slice rA trs.length rc) := by rw [cell_of_row _ _ _ _ _ _ HA1.out]; rfl
      have HN1 := Lib.hid (fun w => isname_any nm w hns)
      have HN2 := Lib.hid (fun w => isname_any pa w hps)
      have hpe : (pa.toList != []) = !(pa.data.toList == []) := by rw [toList_eq_data]; rfl
      cases hb1 : nameL nm.data.toList with
      | false =>
        rw [hb1] at HN1
        have e0 : V = 4 := by rw [← HV2.out, if_pos (.inl hb1)]
        go_wp2_with (go_at_call_of 58 (Value.string nm); refine (HN1.out _).mono ?_; rintro e w' ⟨rfl, rfl⟩)
        rw [HRR.out, e0]
        exact ⟨rfl, HB1.out⟩
      | true =>
        rw [hb1] at HN1
        have hbad : Hid ((pa.data.toList ≠ [] ∧ nameL pa.data.toList = false) ∨ ¬ (pa.data.toList ≠ [] ∧ nameL pa.data.toList = false)) := Classical.em _
        rcases hbad.out with ⟨hp1, hp2⟩ | hgood
        · have tp : (pa.toList != []) = true := by rw [toList_eq_data]; exact bne_iff_ne.2 hp1
          have tp2 : pa.toList.isEmpty = false := by rw [toList_eq_data]; exact List.isEmpty_eq_false_iff.2 hp1
          rw [hp2] at HN2
          have e0 : V = 4 := by rw [← HV2.out, if_pos (.inr ⟨hp1, hp2⟩)]
          clear hp1 hpe
          go_wp2_with (first | (go_at_call_of 58 (Value.string nm); refine (HN1.out _).mono ?_; rintro e w' ⟨rfl, rfl⟩) | (go_at_call_of 58 (Value.string pa); refine (HN2.out _).mono ?_; rintro e w' ⟨rfl, rfl⟩))
          rw [HRR.out, e0]
          exact ⟨rfl, HB1.out⟩
        · have HV3 := Lib.hid (HV2.out)
          rw [if_neg (by rintro (e | e); exact Bool.noConfusion (e.symm.trans hb1); exact hgood e)] at HV3
          have HG : Hid (pa.data.toList = [] ∨ nameL pa.data.toList = true) := by
            by_cases e : pa.data.toList = []
            · exact .inl e
            · right
              cases e2 : nameL pa.data.toList with
              | true => rfl
              | false => exact absurd ⟨e, e2⟩ hgood
          clear hgood HV2 hbad
          simp only [Act.put]
          go_cut [34] (fun cv wx => cv = .bool false ∧ wx = w2)
          case first =>
            rcases HG.out with hp | hp
            · have tp : (pa.toList != []) = false := by rw [toList_eq_data, hp]; rfl
              have tp2 : pa.toList.isEmpty = true := by rw [toList_eq_data, hp]; rfl
              clear hp hpe
              go_wp2_with (go_at_call_of 58 (Value.string nm); refine (HN1.out _).mono ?_; rintro e w' ⟨rfl, rfl⟩)
              go_meet
              exact ⟨rfl, rfl⟩
            · rw [hp] at HN2
              by_cases hp0 : pa.data.toList = []
              · have tp : (pa.toList != []) = false := by rw [toList_eq_data, hp0]; rfl
                have tp2 : pa.toList.isEmpty = true := by rw [toList_eq_data, hp0]; rfl
                clear hp0 hp hpe
                go_wp2_with (go_at_call_of 58 (Value.string nm); refine (HN1.out _).mono ?_; rintro e w' ⟨rfl, rfl⟩)
                go_meet
                exact ⟨rfl, rfl⟩
              · have tp : (pa.toList != []) = true := by rw [toList_eq_data]; exact bne_iff_ne.2 hp0
                have tp2 : pa.toList.isEmpty = false := by rw [toList_eq_data]; exact List.isEmpty_eq_false_iff.2 hp0
                clear hp0 hp hpe
                go_wp2_with (first | (go_at_call_of 58 (Value.string nm); refine (HN1.out _).mono ?_; rintro e w' ⟨rfl, rfl⟩) | (go_at_call_of 58 (Value.string pa); refine (HN2.out _).mono ?_; rintro e w' ⟨rfl, rfl⟩))
                go_meet
                exact ⟨rfl, rfl⟩
          case rest =>
            obtain ⟨rfl, rfl⟩ := hcut
            have hlk := HM1.out.look nm hns
            have hany : ((ts.take k).map fun t => t.nm.data.toList).any (fun x => x == nm.data.toList) = (ts.take k).any (fun u => u.nm.data.toList == nm.data.toList) := by rw [List.any_map]; rfl
            rw [hany] at hlk
            have HV3' := HV3
            clear hany
            cases hhas : (ts.take k).any (fun u => u.nm.data.toList == nm.data.toList) with
            | true =>
              rw [hhas] at hlk
              have e0 : V = 5 := by rw [← HV3.out, if_pos hhas]
              go_wp2_with fail
              rw [HRR.out, e0]
              exact ⟨rfl, HB1.out⟩
            | false =>
            rw [hhas] at hlk
            have HV4 := HV3
            rw [if_neg (by rw [hhas]; exact Bool.false_ne_true)] at HV4
            obtain ⟨w3, hup, hns3, hgr⟩ := HM1.out.put nm hns (Nat.lt_of_le_of_lt hk (by unfold maxLen; omega))
            have HM3 : Hid (NameSet w3 M (k + 1) ((ts.take (k + 1)).map fun t => t.nm.data.toList)) := by
              show NameSet _ _ _ _
              rw [HTK.out, List.map_append]
              exact hns3
            have HBX : Hid (Below w.heap.size w w3) := Lib.hid (HB1.out.grown hgr HB1.out.size (fun i hi => by injection hi with hi; omega))
            have hb3 : w3.heap[g3]? = wc.heap[g3]? := hgr.block g3 hg3 (fun e => by injection e with e; omega)
            have y2 : w3.cell? ⟨g3, 2, none⟩ = some (.slice rA trs.length rc) := (World.cell?_of_block (w := wc) hb3).trans q2
            clear hns3 hgr hb3 HM1 HV3 HV3'
            go_upto_region 12 with fail
            clear hlk hup q0 q1 q2 HA1
            by_cases h32 : 32 < trs.length
            · have h32i : (32 : Int) < (trs.length : Int) := by omega
              have e0 : V = 3 := by rw [← HV4.out, if_pos h32]
              go_wp2_with fail
              rw [HRR.out, e0]
              exact ⟨rfl, HBX.out⟩
            have h32i : ¬ (32 : Int) < (trs.length : Int) := by omega
            rw [if_neg h32] at HV4
            obtain ⟨RV, HRV⟩ : ∃ RV, Hid (rulesV trs = RV) := ⟨_, rfl⟩
            rw [HRV.out] at HV4
            have hzx := HBX.out.size
            go_wp2_with fail
            obtain ⟨wo, HWO⟩ : ∃ wo, Hid (wo = w3) := ⟨w3, rfl⟩
            go_loopg [49] trs.length (fun gk jv wr => ∃ j : Nat, jv = .int .i64 j ∧ j ≤ trs.length ∧ Hid (rulesV (trs.drop j) = RV) ∧ Hid (Below w3.heap.size w3 wr) ∧ trs.length - j ≤ gk)
            case atStart => exact ⟨0, rfl, by omega, HRV.out, Below.refl _ _, by omega⟩
            case round =>
              clear HRV HWO
              obtain ⟨j, rfl, hj, HRV, HBI, hgk2⟩ := hrel
              have hzi := HBI.out.size
              have HBW : Hid (Below w.heap.size w wr) := Lib.hid (HBX.out.trans (HBI.out.mono hzx))
              by_cases hjl : j < trs.length
              · have hji : (j : Int) < (trs.length : Int) := by omega
                have hj0 : (0 : Int) ≤ (j : Int) := by omega
                obtain ⟨rxs, hrx, hrxl, hrxe⟩ := HU1.out
                obtain ⟨b2, o2, hA2, hb2, hc2⟩ := hrx.cells (by omega)
                subst hA2
                have hyk : rxs[j]? = some (rxs[j]'(by omega)) := List.getElem?_eq_getElem (by omega)
                have hrk : trs[j]? = some trs[j] := List.getElem?_eq_getElem hjl
                have hrg2 : wr.rangeAt b2 (o2 + j * 3) (ruC (rxs[j]'(by omega))) := fun i v hi => by
                  rw [Nat.add_assoc]
                  exact (HBW.out.cell (p := ⟨b2, o2 + (j * 3 + i), none⟩) hb2).trans (hc2 j _ i v hyk hi)
                obtain ⟨_, hbf, haf⟩ := hrxe j _ _ hyk hrk
                have HRV2 := Lib.hid (show rulesV (trs[j] :: trs.drop (j + 1)) = RV by rw [← List.drop_eq_getElem_cons hjl]; exact HRV.out)
                rw [rulesV_step] at HRV2
                have HF1 := Lib.hid hbf
                have HF2 := Lib.hid haf
                clear hc2 hyk hrk hbf haf hrxe hrx HRV
                generalize rxs[j]'(by omega) = y at hrg2 HF1 HF2
                generalize trs[j] = r at HF1 HF2 HRV2
                obtain ⟨yb, ⟨uA, un, uc⟩, ⟨tA, tn, tc⟩⟩ := y
                change Hid (RdE atC 34 w (.slice uA un uc) r.bf) at HF1
                change Hid (RdE atC 34 w (.slice tA tn tc) r.af) at HF2
                obtain ⟨uA', uc', hus, _⟩ := HF1.out.shape
                have hun : un = r.bf.length := by injection hus
                obtain ⟨tA', tc', hts, _⟩ := HF2.out.shape
                have htn : tn = r.af.length := by injection hts
                subst hun htn
                clear hus hts
                have HP1 := Lib.hid (fun (w' : World) (h : Below w.heap.size w w') => valid_any2 r.bf (.slice uA r.bf.length uc) w' (HF1.out.below h (Nat.le_refl _)))
                have HP2 := Lib.hid (fun (w' : World) (h : Below w.heap.size w w') => valid_any2 r.af (.slice tA r.af.length tc) w' (HF2.out.below h (Nat.le_refl _)))
                generalize validF r.bf = x1 at HP1 HRV2
                generalize validF r.af = x2 at HP2 HRV2
                have HQ : Hid (((wr.alloc (.cells #[.bool false, .slice none 0 0, .slice none 0 0] 30)).setRow wr.heap.size (ruC ⟨yb, ⟨uA, r.bf.length, uc⟩, ⟨tA, r.af.length, tc⟩⟩).toArray).heap[wr.heap.size]? = some (.cells (ruC ⟨yb, ⟨uA, r.bf.length, uc⟩, ⟨tA, r.af.length, tc⟩⟩).toArray 30)) := setRow_heap _ _ _ _ _ _ (heap_alloc_new wr _)
                have HNL0 : Hid (Below wr.heap.size wr ((wr.alloc (.cells #[.bool false, .slice none 0 0, .slice none 0 0] 30)).setRow wr.heap.size (ruC ⟨yb, ⟨uA, r.bf.length, uc⟩, ⟨tA, r.af.length, tc⟩⟩).toArray)) := below_setRow ((Below.refl _ wr).alloc (Nat.le_refl _) _) (Nat.le_refl _) _
                go_upto_region 17 with (first
                  | (refine wpList_load_mid rfl 30 (.tmp 51) rfl b2 (o2 + j * 3) rfl (ruC ⟨yb, ⟨uA, r.bf.length, uc⟩, ⟨tA, r.af.length, tc⟩⟩) _ hrg2 hur rfl (by rw [hir]; rfl) ?_)
                  | (refine wpList_store_row rfl 30 (.tmp 7) (.tmp 52) rfl (wr.heap.size) (ruC ⟨yb, ⟨uA, r.bf.length, uc⟩, ⟨tA, r.af.length, tc⟩⟩).toArray rfl rfl 30 _ (heap_alloc_new wr _) (by rw [hir]; rfl) rfl (ruC_oneA _) ?_))
                have hgq : wr.heap.size < ((wr.alloc (.cells #[.bool false, .slice none 0 0, .slice none 0 0] 30)).setRow wr.heap.size (ruC ⟨yb, ⟨uA, r.bf.length, uc⟩, ⟨tA, r.af.length, tc⟩⟩).toArray).heap.size := (Array.getElem?_eq_some_iff.1 HQ.out).1
                have HNL := HNL0
                have HBL : Hid (Below w.heap.size w ((wr.alloc (.cells #[.bool false, .slice none 0 0, .slice none 0 0] 30)).setRow wr.heap.size (ruC ⟨yb, ⟨uA, r.bf.length, uc⟩, ⟨tA, r.af.length, tc⟩⟩).toArray)) := Lib.hid (HBW.out.trans (HNL0.out.mono HBW.out.size))
                clear HNL0 hrg2
                generalize hq : wr.heap.size = q at HQ hgq HNL HBL ⊢
                generalize (wr.alloc (.cells #[.bool false, .slice none 0 0, .slice none 0 0] 30)).setRow q (ruC ⟨yb, ⟨uA, r.bf.length, uc⟩, ⟨tA, r.af.length, tc⟩⟩).toArray = w6 at HQ HNL HBL hgq ⊢
                rw [← hq] at HNL
                have p1 : w6.cell? ⟨q, 1, none⟩ = some (.slice uA r.bf.length uc) := by rw [cell_of_row _ _ _ _ _ _ HQ.out]; rfl
                have p2 : w6.cell? ⟨q, 2, none⟩ = some (.slice tA r.af.length tc) := by rw [cell_of_row _ _ _ _ _ _ HQ.out]; rfl
                by_cases hx1 : x1 ≠ 0
                · have t1 : (x1 != 0) = true := bne_iff_ne.2 hx1
                  have e1 : RV = x1 := by rw [← HRV2.out, if_pos hx1]
                  have e0 : V = x1 := by rw [← HV4.out, e1, if_pos hx1]
                  go_wp2_with (go_at_call_of 59 (Value.slice uA r.bf.length uc); refine (HP1.out _ HBL.out).mono ?_; rintro e w7 ⟨rfl, hb7⟩)
                  rw [HRR.out, e0]
                  exact ⟨rfl, HBL.out.trans (hb7.mono HBL.out.size)⟩
                have t1 : (x1 != 0) = false := by simpa using hx1
                rw [if_neg hx1] at HRV2
                by_cases hx2 : x2 ≠ 0
                · have t2 : (x2 != 0) = true := bne_iff_ne.2 hx2
                  have e1 : RV = x2 := by rw [← HRV2.out, if_pos hx2]
                  have e0 : V = x2 := by rw [← HV4.out, e1, if_pos hx2]
                  go_upto_region 18 with (go_at_call 59; refine (HP1.out _ HBL.out).mono ?_; rintro e w7 ⟨rfl, hb7⟩)
                  have HB7 := Lib.hid (HBL.out.trans (hb7.mono HBL.out.size))
                  have p3 : w7.cell? ⟨q, 2, none⟩ = some (.slice tA r.af.length tc) := (hb7.cell (p := ⟨q, 2, none⟩) hgq).trans p2
                  go_wp2_with (go_at_call 59; refine (HP2.out _ HB7.out).mono ?_; rintro e w8 ⟨rfl, hb8⟩)
                  rw [HRR.out, e0]
                  exact ⟨rfl, HB7.out.trans (hb8.mono HB7.out.size)⟩
                have t2 : (x2 != 0) = false := by simpa using hx2
                have HRV3 : Hid (rulesV (trs.drop (j + 1)) = RV) := by show _ = _; rw [← HRV2.out, if_neg hx2]
                go_upto_region 18 with (go_at_call 59; refine (HP1.out _ HBL.out).mono ?_; rintro e w7 ⟨rfl, hb7⟩)
                have HB7 := Lib.hid (HBL.out.trans (hb7.mono HBL.out.size))
                have p3 : w7.cell? ⟨q, 2, none⟩ = some (.slice tA r.af.length tc) := (hb7.cell (p := ⟨q, 2, none⟩) hgq).trans p2
                go_wp2_with (go_at_call 59; refine (HP2.out _ HB7.out).mono ?_; rintro e w8 ⟨rfl, hb8⟩)
                have HB8 : Hid (Below w3.heap.size w3 w8) := Lib.hid (HBI.out.trans ((HNL.out.trans ((hb7.mono HNL.out.size).trans (hb8.mono (Nat.le_trans HNL.out.size hb7.size)))).mono hzi))
                go_roundg (trs.length - (j + 1))
                case measure => omega
                case rel => exact ⟨j + 1, by go_num, by omega, HRV3.out, HB8.out, Nat.le_refl _⟩
              · obtain rfl : j = trs.length := by omega
                have hji : ¬ (trs.length : Int) < (trs.length : Int) := by omega
                have e1 : RV = 0 := by rw [← HRV.out, List.drop_eq_nil_of_le (Nat.le_refl _)]; rfl
                have HV6 : Hid (validGo (ts.take (k + 1)) (ts.drop (k + 1)) = V) := by
                  show _ = _
                  rw [HTK.out, ← HV4.out, e1, if_neg (by decide)]
                go_wp2_with fail
                go_roundg (xs.length - (k + 1))
                case measure => omega
                case rel => exact ⟨k + 1, by go_num, by omega, HV6.out, (HM3.out.same (HBI.out.block M HM3.out.lt)), HBW.out, Nat.le_refl _⟩
    · obtain rfl : k = xs.length := by omega
      have hki : ¬ (xs.length : Int) < (xs.length : Int) := by omega
      have e0 : V = 0 := by rw [← HV.out, List.drop_eq_nil_of_le (by omega)]; rfl
      go_wp2_with fail
      rw [HRR.out, e0]
      exact ⟨rfl, HB.out⟩


set_option maxRecDepth 100000 in
set_option maxHeartbeats 16000000 in
theorem rValidate_any (ts : List Tb) (v : Value) (w : World) (ht : RdTb w v ts) (hin : TbIn ts) :
    Calls Tryd.prog 24 #[v] w (IntRet w (validT ts)) := by
  obtain ⟨V, HV⟩ : ∃ V, Hid (V = validT ts) := ⟨_, rfl⟩
  rw [← HV.out]
  obtain ⟨R, HRR⟩ : ∃ R, Hid (R = IntRet w V) := ⟨_, rfl⟩
  rw [← HRR.out]
  have HT := Lib.hid ht
  obtain ⟨xs, hx0, hxl, hx⟩ := ht
  have hxa : xs.length ≤ ts.length := Nat.le_of_eq hxl
  have hxb : ts.length ≤ xs.length := Nat.le_of_eq hxl.symm
  rw [show v = v from rfl] at HT
  obtain ⟨A, c, hv, hlc, _⟩ := hx0.shape
  subst hv
  by_cases h16 : 16 < xs.length
  · have h16i : (16 : Int) < (xs.length : Int) := by omega
    have e0 : V = 3 := by rw [HV.out]; unfold validT; rw [if_pos (by omega)]
    go_enter Tryd.func24, Tryd.ntmps24
    go_wp2_with fail
    rw [HRR.out, e0]
    exact ⟨rfl, Below.refl _ _⟩
  have h16i : ¬ (16 : Int) < (xs.length : Int) := by omega
  have HV0 : Hid (validGo [] ts = V) := by show _ = _; rw [HV.out]; unfold validT; rw [if_neg (by omega)]
  have HX := Lib.hid hx0
  have HXR := Lib.hid hx
  have HIN := Lib.hid hin.2
  clear hx0 hx hxl HV hin
  have hu := Tryd.underlying46
  have hi : (Tryd.prog.info? 46).map (·.size) = some 3 := table_size
  have hur := Tryd.underlying30
  have hir : (Tryd.prog.info? 30).map (·.size) = some 3 := by kernel_rfl
  go_enter Tryd.func24, Tryd.ntmps24
  go_wp2_with fail
  have HB0 : Hid (Below w.heap.size w w) := Below.refl _ _
  obtain ⟨wo, HWO⟩ : ∃ wo, Hid (wo = w) := ⟨w, rfl⟩
  go_loopg [3, 13] xs.length (fun gk iv kv wr => ∃ k : Nat, kv = .int .i64 k ∧ k ≤ xs.length ∧ Hid (validGo (ts.take k) (ts.drop k) = V) ∧ Hid (Below w.heap.size w wr) ∧ xs.length - k ≤ gk)
  case atStart => exact ⟨0, rfl, by omega, HV0.out, HB0.out, by omega⟩
  case round =>
    clear HWO HV0 HB0 
    obtain ⟨k, rfl, hk, HV, HB, hgk⟩ := hrel
    by_cases hkl : k < xs.length
    · have hki : (k : Int) < (xs.length : Int) := by omega
      have hk0 : (0 : Int) ≤ (k : Int) := by omega
      obtain ⟨b, o, rfl, hbl, hcell⟩ := HX.out.cells (by omega)
      have hkt : k < ts.length := by omega
      have hxk : xs[k]? = some xs[k] := List.getElem?_eq_getElem hkl
      have htk : ts[k]? = some (ts[k]'hkt) := List.getElem?_eq_getElem hkt
      have hrg : wr.rangeAt b (o + k * 3) (tbC xs[k]) := fun j v hj => by
        rw [Nat.add_assoc]
        exact (HB.out.cell (p := ⟨b, o + (k * 3 + j), none⟩) hbl).trans (hcell k _ j v hxk hj)
      obtain ⟨hnm, hpa, hru⟩ := HXR.out k _ _ hxk htk
      obtain ⟨hns, hps⟩ := HIN.out _ (List.getElem_mem hkt)
      have HV2 := Lib.hid ((show validGo (ts.take k) (ts[k]'hkt :: ts.drop (k + 1)) = V by rw [← List.drop_eq_getElem_cons hkt]; exact HV.out))
      rw [validGo_step] at HV2
      have HTK : Hid (ts.take (k + 1) = ts.take k ++ [ts[k]'hkt]) := List.take_succ_eq_append_getElem hkt
      have HU1 := Lib.hid hru
      clear hcell hxk htk hru HV
      generalize xs[k] = x at hrg HU1 hnm hpa
      generalize ts[k]'hkt = t at HU1 hnm hpa hns hps HV2 HTK
      obtain ⟨nm, pa, ⟨rA, rn, rc⟩⟩ := x
      obtain ⟨tnm, tpa, trs⟩ := t
      simp only at hnm hpa hns hps HV2
      subst hnm hpa
      change Hid (RdRu w (.slice rA rn rc) trs) at HU1
      obtain ⟨rA', rc', hrs⟩ := HU1.out.shape
      have hrn : rn = trs.length := by injection hrs
      subst hrn
      clear hrs
      have hz := HB.out.size
      have HA1 : Hid (((wr.alloc (.cells #[.string ⟨#[]⟩, .string ⟨#[]⟩, .slice none 0 0] 46)).setRow wr.heap.size (tbC ⟨nm, pa, ⟨rA, trs.length, rc⟩⟩).toArray).heap[wr.heap.size]? = some (.cells (tbC ⟨nm, pa, ⟨rA, trs.length, rc⟩⟩).toArray 46)) := setRow_heap _ _ _ _ _ _ (heap_alloc_new wr _)
      have HB1 : Hid (Below w.heap.size w ((wr.alloc (.cells #[.string ⟨#[]⟩, .string ⟨#[]⟩, .slice none 0 0] 46)).setRow wr.heap.size (tbC ⟨nm, pa, ⟨rA, trs.length, rc⟩⟩).toArray)) := below_setRow (HB.out.alloc hz _) hz _
      have HN1 : Hid (Below wr.heap.size wr ((wr.alloc (.cells #[.string ⟨#[]⟩, .string ⟨#[]⟩, .slice none 0 0] 46)).setRow wr.heap.size (tbC ⟨nm, pa, ⟨rA, trs.length, rc⟩⟩).toArray)) := below_setRow ((Below.refl _ wr).alloc (Nat.le_refl _) _) (Nat.le_refl _) _
      go_upto_region 7 with (first
        | (refine wpList_load_mid rfl 46 (.tmp 18) rfl b (o + k * 3) rfl (tbC ⟨nm, pa, ⟨rA, trs.length, rc⟩⟩) _ hrg hu rfl (by rw [hi]; rfl) ?_)
        | (refine wpList_store_row rfl 46 (.tmp 4) (.tmp 19) rfl (wr.heap.size) (tbC ⟨nm, pa, ⟨rA, trs.length, rc⟩⟩).toArray rfl rfl 46 _ (heap_alloc_new wr _) (by rw [table_size]; rfl) rfl (tbC_oneA ⟨nm, pa, ⟨rA, trs.length, rc⟩⟩) ?_))
      have hg3 : wr.heap.size < ((wr.alloc (.cells #[.string ⟨#[]⟩, .string ⟨#[]⟩, .slice none 0 0] 46)).setRow wr.heap.size (tbC ⟨nm, pa, ⟨rA, trs.length, rc⟩⟩).toArray).heap.size := (Array.getElem?_eq_some_iff.1 HA1.out).1
      clear HB hrg HN1 
      generalize wr.heap.size = g3 at HA1 HB1 hz hg3  ⊢
      generalize (wr.alloc (.cells #[.string ⟨#[]⟩, .string ⟨#[]⟩, .slice none 0 0] 46)).setRow g3 (tbC ⟨nm, pa, ⟨rA, trs.length, rc⟩⟩).toArray = w2 at HA1 HB1 hg3  ⊢
      have q0 : w2.cell? ⟨g3, 0, none⟩ = some (.string nm) := by rw [cell_of_row _ _ _ _ _ _ HA1.out]; rfl
      have q1 : w2.cell? ⟨g3, 1, none⟩ = some (.string pa) := by rw [cell_of_row _ _ _ _ _ _ HA1.out]; rfl
      have q2 : w2.cell? ⟨g3, 2, none⟩ = some (.slice rA trs.length rc) := by rw [cell_of_row _ _ _ _ _ _ HA1.out]; rfl
      have HN1 := Lib.hid (fun w => risname_any nm w hns)
      have HN2 := Lib.hid (fun w => risname_any pa w hps)
      have hpe : (pa.toList != []) = !(pa.data.toList == []) := by rw [toList_eq_data]; rfl
      cases hb1 : nameL nm.data.toList with
      | false =>
        rw [hb1] at HN1
        have e0 : V = 4 := by rw [← HV2.out, if_pos (.inl hb1)]
        go_wp2_with (go_at_call_of 60 (Value.string nm); refine (HN1.out _).mono ?_; rintro e w' ⟨rfl, rfl⟩)
        rw [HRR.out, e0]
        exact ⟨rfl, HB1.out⟩
      | true =>
        rw [hb1] at HN1
        have hbad : Hid ((pa.data.toList ≠ [] ∧ nameL pa.data.toList = false) ∨ ¬ (pa.data.toList ≠ [] ∧ nameL pa.data.toList = false)) := Classical.em _
        rcases hbad.out with ⟨hp1, hp2⟩ | hgood
        · have tp : (pa.toList != []) = true := by rw [toList_eq_data]; exact bne_iff_ne.2 hp1
          have tp2 : pa.toList.isEmpty = false := by rw [toList_eq_data]; exact List.isEmpty_eq_false_iff.2 hp1
          rw [hp2] at HN2
          have e0 : V = 4 := by rw [← HV2.out, if_pos (.inr ⟨hp1, hp2⟩)]
          clear hp1 hpe
          go_wp2_with (first | (go_at_call_of 60 (Value.string nm); refine (HN1.out _).mono ?_; rintro e w' ⟨rfl, rfl⟩) | (go_at_call_of 60 (Value.string pa); refine (HN2.out _).mono ?_; rintro e w' ⟨rfl, rfl⟩))
          rw [HRR.out, e0]
          exact ⟨rfl, HB1.out⟩
        · have HV3 := Lib.hid (HV2.out)
          rw [if_neg (by rintro (e | e); exact Bool.noConfusion (e.symm.trans hb1); exact hgood e)] at HV3
          have HG : Hid (pa.data.toList = [] ∨ nameL pa.data.toList = true) := by
            by_cases e : pa.data.toList = []
            · exact .inl e
            · right
              cases e2 : nameL pa.data.toList with
              | true => rfl
              | false => exact absurd ⟨e, e2⟩ hgood
          clear hgood HV2 hbad
          simp only [Act.put]
          go_cut [34] (fun cv wx => cv = .bool false ∧ wx = w2)
          case first =>
            rcases HG.out with hp | hp
            · have tp : (pa.toList != []) = false := by rw [toList_eq_data, hp]; rfl
              have tp2 : pa.toList.isEmpty = true := by rw [toList_eq_data, hp]; rfl
              clear hp hpe
              go_wp2_with (go_at_call_of 60 (Value.string nm); refine (HN1.out _).mono ?_; rintro e w' ⟨rfl, rfl⟩)
              go_meet
              exact ⟨rfl, rfl⟩
            · rw [hp] at HN2
              by_cases hp0 : pa.data.toList = []
              · have tp : (pa.toList != []) = false := by rw [toList_eq_data, hp0]; rfl
                have tp2 : pa.toList.isEmpty = true := by rw [toList_eq_data, hp0]; rfl
                clear hp0 hp hpe
                go_wp2_with (go_at_call_of 60 (Value.string nm); refine (HN1.out _).mono ?_; rintro e w' ⟨rfl, rfl⟩)
                go_meet
                exact ⟨rfl, rfl⟩
              · have tp : (pa.toList != []) = true := by rw [toList_eq_data]; exact bne_iff_ne.2 hp0
                have tp2 : pa.toList.isEmpty = false := by rw [toList_eq_data]; exact List.isEmpty_eq_false_iff.2 hp0
                clear hp0 hp hpe
                go_wp2_with (first | (go_at_call_of 60 (Value.string nm); refine (HN1.out _).mono ?_; rintro e w' ⟨rfl, rfl⟩) | (go_at_call_of 60 (Value.string pa); refine (HN2.out _).mono ?_; rintro e w' ⟨rfl, rfl⟩))
                go_meet
                exact ⟨rfl, rfl⟩
          case rest =>
            obtain ⟨rfl, rfl⟩ := hcut
            have HNM := Lib.hid (fun (w' : World) (h : Below w.heap.size w w') => named_any (ts.take k) (.slice (some ⟨b, o, none⟩) k c) nm w' ((HT.out.take k (by omega)).below h (Nat.le_refl _)) (by rw [List.length_take]; omega))
            have HFA := Lib.hid (find_any_iff (ts.take k) nm 0)
            obtain ⟨fi, HFI⟩ : ∃ fi, Hid (fi = findF (ts.take k) nm 0) := ⟨_, rfl⟩
            rw [← HFI.out] at HNM HFA
            clear HFI
            have HSL : Hid (∀ w', (Instr.sliceAt 39 (.slice (some ⟨b, o, none⟩) xs.length c) none (some (.int .i64 (k : Int))) none).run Tryd.prog w' = .ok (.slice (some ⟨b, o, none⟩) k c) w') := fun w' => run_tables_to _ _ _ _ hk hlc w'
            by_cases hfi : 0 ≤ fi
            · have e0 : V = 5 := by rw [← HV3.out, if_pos (HFA.out.1 hfi)]
              have hge : decide (0 ≤ fi) = true := decide_eq_true hfi
              go_wp2_with fail
              refine wp_region_at 7 #[false, false, false, false, false, false, false] rfl rfl (by kernel_rfl) ?_
              refine wpAny_at (i := 0) (v := .slice (some ⟨b, o, none⟩) xs.length c) (some 35) rfl rfl (by kernel_rfl) (by kernel_rfl) (by kernel_rfl) (fun _ _ _ h => h) (by kernel_rfl) (fun _ => ex_move _ _ rfl (by kernel_rfl)) ?_
              simp only [Act.put, List.setIfInBounds_toArray, List.set_cons_zero, List.set_cons_succ]
              refine wpAny_at (i := 1) (v := .int .i64 (k : Int)) (some 36) rfl rfl (by kernel_rfl) (by kernel_rfl) (by kernel_rfl) (fun _ _ _ h => h) (by kernel_rfl) (fun _ => ex_move _ _ rfl (by kernel_rfl)) ?_
              simp only [Act.put, List.setIfInBounds_toArray, List.set_cons_zero, List.set_cons_succ]
              refine wpAny_at (i := 2) (v := .slice (some ⟨b, o, none⟩) k c) (some 37) rfl rfl (by kernel_rfl) (by kernel_rfl) (by kernel_rfl) (fun _ _ _ h => h) (by kernel_rfl) (fun _ => ex_slice 39 _ _ _ (.slice (some ⟨b, o, none⟩) xs.length c) _ none (some (.int .i64 (k : Int))) rfl (by kernel_rfl) (by kernel_rfl) (by kernel_rfl) (HSL.out _)) ?_
              simp only [Act.put, List.setIfInBounds_toArray, List.set_cons_zero, List.set_cons_succ]
              refine wpAny_at (i := 3) (v := .pointer (some ⟨g3, 0, none⟩)) (some 38) rfl rfl (by kernel_rfl) (by kernel_rfl) (by kernel_rfl) (fun _ _ _ h => h) (by kernel_rfl) (fun _ => ex_fieldAddr 46 _ 0 (.pointer (some ⟨g3, 0, none⟩)) _ rfl (by kernel_rfl) (by go_simp)) ?_
              simp only [Act.put, List.setIfInBounds_toArray, List.set_cons_zero, List.set_cons_succ]
              refine wpAny_val 4 (some 39) (.string nm) (by kernel_rfl) rfl rfl (by kernel_rfl) (ex_load 9 _ (.pointer (some ⟨g3, 0, none⟩)) _ rfl (by kernel_rfl) (ld_str0 (w := wc.drew) q0)) ?_
              simp only [Act.put, List.setIfInBounds_toArray, List.set_cons_zero, List.set_cons_succ]
              refine wpAny_call 5 (some 40) (by kernel_rfl) rfl rfl (by kernel_rfl) 61 (#[.slice (some ⟨b, o, none⟩) k c, .string nm]) (by go_simp) (HNM.out _ (below_drewN HB1.out 1)) ?_
              rintro e w5 ⟨rfl, hb5⟩
              refine ⟨_, rfl, ?_⟩
              have hx5 := (below_drewN (Below.refl wc.heap.size wc) 1).trans hb5
              simp only [Act.put, List.setIfInBounds_toArray, List.set_cons_zero, List.set_cons_succ]
              refine wpAny_at (i := 6) (v := .bool true) (some 41) rfl rfl (by kernel_rfl) (by kernel_rfl) (by kernel_rfl) (fun _ _ _ h => h) (by kernel_rfl) (fun _ => ex_binOp .geq 3 3 _ _ (.int .i64 fi) (.int .i64 0) _ rfl (by kernel_rfl) (by kernel_rfl) (by go_simp)) ?_
              simp only [Act.put, List.setIfInBounds_toArray, List.set_cons_zero, List.set_cons_succ]
              refine wpAny_done (by kernel_rfl) ?_ _
              go_wp2_with fail
              rw [HRR.out, e0]
              exact ⟨rfl, HB1.out.trans (hx5.mono HB1.out.size)⟩
            have HV4 := HV3
            rw [if_neg (fun h => hfi (HFA.out.2 h))] at HV4
            have hge : decide (0 ≤ fi) = false := decide_eq_false hfi
            go_wp2_with fail
            refine wp_region_at 7 #[false, false, false, false, false, false, false] rfl rfl (by kernel_rfl) ?_
            refine wpAny_at (i := 0) (v := .slice (some ⟨b, o, none⟩) xs.length c) (some 35) rfl rfl (by kernel_rfl) (by kernel_rfl) (by kernel_rfl) (fun _ _ _ h => h) (by kernel_rfl) (fun _ => ex_move _ _ rfl (by kernel_rfl)) ?_
            simp only [Act.put, List.setIfInBounds_toArray, List.set_cons_zero, List.set_cons_succ]
            refine wpAny_at (i := 1) (v := .int .i64 (k : Int)) (some 36) rfl rfl (by kernel_rfl) (by kernel_rfl) (by kernel_rfl) (fun _ _ _ h => h) (by kernel_rfl) (fun _ => ex_move _ _ rfl (by kernel_rfl)) ?_
            simp only [Act.put, List.setIfInBounds_toArray, List.set_cons_zero, List.set_cons_succ]
            refine wpAny_at (i := 2) (v := .slice (some ⟨b, o, none⟩) k c) (some 37) rfl rfl (by kernel_rfl) (by kernel_rfl) (by kernel_rfl) (fun _ _ _ h => h) (by kernel_rfl) (fun _ => ex_slice 39 _ _ _ (.slice (some ⟨b, o, none⟩) xs.length c) _ none (some (.int .i64 (k : Int))) rfl (by kernel_rfl) (by kernel_rfl) (by kernel_rfl) (HSL.out _)) ?_
            simp only [Act.put, List.setIfInBounds_toArray, List.set_cons_zero, List.set_cons_succ]
            refine wpAny_at (i := 3) (v := .pointer (some ⟨g3, 0, none⟩)) (some 38) rfl rfl (by kernel_rfl) (by kernel_rfl) (by kernel_rfl) (fun _ _ _ h => h) (by kernel_rfl) (fun _ => ex_fieldAddr 46 _ 0 (.pointer (some ⟨g3, 0, none⟩)) _ rfl (by kernel_rfl) (by go_simp)) ?_
            simp only [Act.put, List.setIfInBounds_toArray, List.set_cons_zero, List.set_cons_succ]
            refine wpAny_val 4 (some 39) (.string nm) (by kernel_rfl) rfl rfl (by kernel_rfl) (ex_load 9 _ (.pointer (some ⟨g3, 0, none⟩)) _ rfl (by kernel_rfl) (ld_str0 (w := wc.drew) q0)) ?_
            simp only [Act.put, List.setIfInBounds_toArray, List.set_cons_zero, List.set_cons_succ]
            refine wpAny_call 5 (some 40) (by kernel_rfl) rfl rfl (by kernel_rfl) 61 (#[.slice (some ⟨b, o, none⟩) k c, .string nm]) (by go_simp) (HNM.out _ (below_drewN HB1.out 1)) ?_
            rintro e w5 ⟨rfl, hb5⟩
            refine ⟨_, rfl, ?_⟩
            have hx5 := (below_drewN (Below.refl wc.heap.size wc) 1).trans hb5
            simp only [Act.put, List.setIfInBounds_toArray, List.set_cons_zero, List.set_cons_succ]
            refine wpAny_at (i := 6) (v := .bool false) (some 41) rfl rfl (by kernel_rfl) (by kernel_rfl) (by kernel_rfl) (fun _ _ _ h => h) (by kernel_rfl) (fun _ => ex_binOp .geq 3 3 _ _ (.int .i64 fi) (.int .i64 0) _ rfl (by kernel_rfl) (by kernel_rfl) (by go_simp)) ?_
            simp only [Act.put, List.setIfInBounds_toArray, List.set_cons_zero, List.set_cons_succ]
            refine wpAny_done (by kernel_rfl) ?_ _
            have HBX : Hid (Below w.heap.size w w5) := Lib.hid (HB1.out.trans (hx5.mono HB1.out.size))
            have y2 : w5.cell? ⟨g3, 2, none⟩ = some (.slice rA trs.length rc) := (hx5.cell (p := ⟨g3, 2, none⟩) hg3).trans q2
            have hg5 : g3 < w5.heap.size := Nat.lt_of_lt_of_le hg3 hx5.size
            clear HV3 q0 q1 q2 HA1 hb5 hx5
            go_upto_region 11 with fail
            by_cases h32 : 32 < trs.length
            · have h32i : (32 : Int) < (trs.length : Int) := by omega
              have e0 : V = 3 := by rw [← HV4.out, if_pos h32]
              go_wp2_with fail
              rw [HRR.out, e0]
              exact ⟨rfl, HBX.out⟩
            have h32i : ¬ (32 : Int) < (trs.length : Int) := by omega
            rw [if_neg h32] at HV4
            obtain ⟨RV, HRV⟩ : ∃ RV, Hid (rulesV trs = RV) := ⟨_, rfl⟩
            rw [HRV.out] at HV4
            have hzx := HBX.out.size
            go_wp2_with fail
            obtain ⟨wo, HWO⟩ : ∃ wo, Hid (wo = w5) := ⟨w5, rfl⟩
            go_loopg [5, 49] trs.length (fun gk iv jv wr => ∃ j : Nat, jv = .int .i64 j ∧ j ≤ trs.length ∧ Hid (rulesV (trs.drop j) = RV) ∧ Hid (Below w5.heap.size w5 wr) ∧ trs.length - j ≤ gk)
            case atStart => exact ⟨0, rfl, by omega, HRV.out, Below.refl _ _, by omega⟩
            case round =>
              clear HRV HWO
              obtain ⟨j, rfl, hj, HRV, HBI, hgk2⟩ := hrel
              have hzi := HBI.out.size
              have HBW : Hid (Below w.heap.size w wr) := Lib.hid (HBX.out.trans (HBI.out.mono hzx))
              by_cases hjl : j < trs.length
              · have hji : (j : Int) < (trs.length : Int) := by omega
                have hj0 : (0 : Int) ≤ (j : Int) := by omega
                obtain ⟨rxs, hrx, hrxl, hrxe⟩ := HU1.out
                obtain ⟨b2, o2, hA2, hb2, hc2⟩ := hrx.cells (by omega)
                subst hA2
                have hyk : rxs[j]? = some (rxs[j]'(by omega)) := List.getElem?_eq_getElem (by omega)
                have hrk : trs[j]? = some trs[j] := List.getElem?_eq_getElem hjl
                have hrg2 : wr.rangeAt b2 (o2 + j * 3) (ruC (rxs[j]'(by omega))) := fun i v hi => by
                  rw [Nat.add_assoc]
                  exact (HBW.out.cell (p := ⟨b2, o2 + (j * 3 + i), none⟩) hb2).trans (hc2 j _ i v hyk hi)
                obtain ⟨_, hbf, haf⟩ := hrxe j _ _ hyk hrk
                have HRV2 := Lib.hid (show rulesV (trs[j] :: trs.drop (j + 1)) = RV by rw [← List.drop_eq_getElem_cons hjl]; exact HRV.out)
                rw [rulesV_step] at HRV2
                have HF1 := Lib.hid hbf
                have HF2 := Lib.hid haf
                clear hc2 hyk hrk hbf haf hrxe hrx HRV
                generalize rxs[j]'(by omega) = y at hrg2 HF1 HF2
                generalize trs[j] = r at HF1 HF2 HRV2
                obtain ⟨yb, ⟨uA, un, uc⟩, ⟨tA, tn, tc⟩⟩ := y
                change Hid (RdE atC 34 w (.slice uA un uc) r.bf) at HF1
                change Hid (RdE atC 34 w (.slice tA tn tc) r.af) at HF2
                obtain ⟨uA', uc', hus, _⟩ := HF1.out.shape
                have hun : un = r.bf.length := by injection hus
                obtain ⟨tA', tc', hts, _⟩ := HF2.out.shape
                have htn : tn = r.af.length := by injection hts
                subst hun htn
                clear hus hts
                have HP1 := Lib.hid (fun (w' : World) (h : Below w.heap.size w w') => rvalid_any2 r.bf (.slice uA r.bf.length uc) w' (HF1.out.below h (Nat.le_refl _)))
                have HP2 := Lib.hid (fun (w' : World) (h : Below w.heap.size w w') => rvalid_any2 r.af (.slice tA r.af.length tc) w' (HF2.out.below h (Nat.le_refl _)))
                generalize validF r.bf = x1 at HP1 HRV2
                generalize validF r.af = x2 at HP2 HRV2
                have p1 : wr.cell? ⟨b2, o2 + j * 3 + 1, none⟩ = some (.slice uA r.bf.length uc) := hrg2 1 _ rfl
                have p2 : wr.cell? ⟨b2, o2 + j * 3 + 2, none⟩ = some (.slice tA r.af.length tc) := hrg2 2 _ rfl
                have p0 : wr.cell? ⟨g3, 2, none⟩ = some (.slice (some ⟨b2, o2, none⟩) trs.length rc) := (HBI.out.cell (p := ⟨g3, 2, none⟩) hg5).trans y2
                have HNL : Hid (Below wr.heap.size wr wr) := Below.refl _ _
                have HBL := HBW
                have hb2w : b2 < wr.heap.size := Nat.lt_of_lt_of_le hb2 HBW.out.size
                have hg3w : g3 < wr.heap.size := Nat.lt_of_lt_of_le hg5 hzi
                clear hrg2
                by_cases hx1 : x1 ≠ 0
                · have t1 : (x1 != 0) = true := bne_iff_ne.2 hx1
                  have e1 : RV = x1 := by rw [← HRV2.out, if_pos hx1]
                  have e0 : V = x1 := by rw [← HV4.out, e1, if_pos hx1]
                  go_wp2_with (go_at_call_of 62 (Value.slice uA r.bf.length uc); refine (HP1.out _ HBL.out).mono ?_; rintro e w7 ⟨rfl, hb7⟩)
                  rw [HRR.out, e0]
                  exact ⟨rfl, HBL.out.trans (hb7.mono HBL.out.size)⟩
                have t1 : (x1 != 0) = false := by simpa using hx1
                rw [if_neg hx1] at HRV2
                by_cases hx2 : x2 ≠ 0
                · have t2 : (x2 != 0) = true := bne_iff_ne.2 hx2
                  have e1 : RV = x2 := by rw [← HRV2.out, if_pos hx2]
                  have e0 : V = x2 := by rw [← HV4.out, e1, if_pos hx2]
                  go_upto_region 17 with (go_at_call 62; refine (HP1.out _ HBL.out).mono ?_; rintro e w7 ⟨rfl, hb7⟩)
                  have HB7 := Lib.hid (HBL.out.trans (hb7.mono HBL.out.size))
                  have p3 : w7.cell? ⟨b2, o2 + j * 3 + 2, none⟩ = some (.slice tA r.af.length tc) := (hb7.cell (p := ⟨b2, o2 + j * 3 + 2, none⟩) hb2w).trans p2
                  have p4 : w7.cell? ⟨g3, 2, none⟩ = some (.slice (some ⟨b2, o2, none⟩) trs.length rc) := (hb7.cell (p := ⟨g3, 2, none⟩) hg3w).trans p0
                  go_wp2_with (go_at_call 62; refine (HP2.out _ HB7.out).mono ?_; rintro e w8 ⟨rfl, hb8⟩)
                  rw [HRR.out, e0]
                  exact ⟨rfl, HB7.out.trans (hb8.mono HB7.out.size)⟩
                have t2 : (x2 != 0) = false := by simpa using hx2
                have HRV3 : Hid (rulesV (trs.drop (j + 1)) = RV) := by show _ = _; rw [← HRV2.out, if_neg hx2]
                go_upto_region 17 with (go_at_call 62; refine (HP1.out _ HBL.out).mono ?_; rintro e w7 ⟨rfl, hb7⟩)
                have HB7 := Lib.hid (HBL.out.trans (hb7.mono HBL.out.size))
                have p3 : w7.cell? ⟨b2, o2 + j * 3 + 2, none⟩ = some (.slice tA r.af.length tc) := (hb7.cell (p := ⟨b2, o2 + j * 3 + 2, none⟩) hb2w).trans p2
                have p4 : w7.cell? ⟨g3, 2, none⟩ = some (.slice (some ⟨b2, o2, none⟩) trs.length rc) := (hb7.cell (p := ⟨g3, 2, none⟩) hg3w).trans p0
                go_wp2_with (go_at_call 62; refine (HP2.out _ HB7.out).mono ?_; rintro e w8 ⟨rfl, hb8⟩)
                have HB8 : Hid (Below w5.heap.size w5 w8) := Lib.hid (HBI.out.trans ((HNL.out.trans ((hb7.mono HNL.out.size).trans (hb8.mono (Nat.le_trans HNL.out.size hb7.size)))).mono hzi))
                go_roundg (trs.length - (j + 1))
                case measure => omega
                case rel => exact ⟨j + 1, by go_num, by omega, HRV3.out, HB8.out, Nat.le_refl _⟩
              · obtain rfl : j = trs.length := by omega
                have hji : ¬ (trs.length : Int) < (trs.length : Int) := by omega
                have e1 : RV = 0 := by rw [← HRV.out, List.drop_eq_nil_of_le (Nat.le_refl _)]; rfl
                have HV6 : Hid (validGo (ts.take (k + 1)) (ts.drop (k + 1)) = V) := by
                  show _ = _
                  rw [HTK.out, ← HV4.out, e1, if_neg (by decide)]
                go_wp2_with fail
                go_roundg (xs.length - (k + 1))
                case measure => omega
                case rel => exact ⟨k + 1, by go_num, by omega, HV6.out,  HBW.out, Nat.le_refl _⟩
    · obtain rfl : k = xs.length := by omega
      have hki : ¬ (xs.length : Int) < (xs.length : Int) := by omega
      have e0 : V = 0 := by rw [← HV.out, List.drop_eq_nil_of_le (by omega)]; rfl
      go_wp2_with fail
      rw [HRR.out, e0]
      exact ⟨rfl, HB.out⟩


end Go.Proofs.YtpboaadjbkaidaaDoor

namespace Go.Proofs.YtpboaadjbkaidaaDoor
set_option maxRecDepth 100000
open Go.RowKit

/-- Tables under way: a row of the call's own, beside blocks X that may change. -/
structure TR (eT : TypeId) (X : List Nat) (B : Nat) (w : World) (v : Value) (ts : List Tb) (xs : List TbV) : Prop where
  own : OwnE eT tbC 3 w B v xs
  len : xs.length = ts.length
  each : ∀ (j : Nat) (x : TbV) (t : Tb), xs[j]? = some x → ts[j]? = some t → x.nm = t.nm ∧ x.pa = t.pa ∧ Keep (X ++ blkL v) w fun u => RdRu u x.r.v t.rs
  below : ∀ b ∈ X, b < B
section
variable {eT : TypeId} {X : List Nat} {B : Nat} {w w' : World} {v v' : Value} {ts : List Tb} {xs : List TbV}
theorem TR.start (hX : ∀ b ∈ X, b < B) : TR eT X B w (.slice none 0 0) [] [] where
  own := OwnE.nil
  len := rfl
  each := fun _ _ _ h => by simp at h
  below := hX
theorem TR.rd (h : TR eT X B w v ts xs) : RdTb w v ts :=
  ⟨xs, h.own.rd tbC_len, h.len, fun i y r hy hr => ⟨(h.each i y r hy hr).1, (h.each i y r hy hr).2.1, (h.each i y r hy hr).2.2.now⟩⟩
theorem TR.keep (h : TR eT X B w v ts xs) (hs : w.heap.size ≤ w'.heap.size) (hk : ∀ b, b < w.heap.size → b ∉ X → w'.heap[b]? = w.heap[b]?) : TR eT X B w' v ts xs where
  own := own_same h.own fun k hk2 => hk k (h.own.lt k hk2).2 (fun hX => by have := h.below k hX; have := (h.own.lt k hk2).1; omega)
  len := h.len
  each := fun i y r hy hr => ⟨(h.each i y r hy hr).1, (h.each i y r hy hr).2.1, (h.each i y r hy hr).2.2.step hs fun b hb hX => ⟨hk b hb (fun e => hX (List.mem_append_left _ e)), hX⟩⟩
  below := h.below
theorem TR.but {g : Nat} (h : TR eT X B w v ts xs) (hg : g ∈ X) (hb : But g w w') : TR eT X B w' v ts xs :=
  h.keep hb.size fun b hlt hX => hb.block b hlt (fun e => hX (by rw [e]; exact hg))
theorem TR.alloc (h : TR eT X B w v ts xs) (o : Obj) : TR eT X B (w.alloc o) v ts xs :=
  h.keep (by simp) fun b hlt _ => Below.heap_alloc w o b hlt
theorem TR.push (h : TR eT X B w v ts xs) (t : Tb) (y : TbV) (hn : y.nm = t.nm) (hp : y.pa = t.pa) (hk : Keep (X ++ blkL v) w fun u => RdRu u y.r.v t.rs)
    (hown : OwnE eT tbC 3 w' B v' (xs ++ [y])) (hg : w.grownBy w' v.ownBlock) (hat : v'.ownBlock = v.ownBlock ∨ v'.ownBlock = some w.heap.size) : TR eT X B w' v' (ts ++ [t]) (xs ++ [y]) := by
  have hnew : ∀ b, b < w.heap.size → b ∉ X ++ blkL v → w'.heap[b]? = w.heap[b]? ∧ b ∉ X ++ blkL v' := fun b hb hX => by
    have h2 : v.ownBlock ≠ some b := fun e => hX (List.mem_append_right _ (mem_blkL.2 e))
    refine ⟨hg.block b hb (fun e => h2 e.symm), fun hm => ?_⟩
    rcases List.mem_append.1 hm with hm | hm
    · exact hX (List.mem_append_left _ hm)
    · have h3 := mem_blkL.1 hm
      rcases hat with e | e
      · exact h2 (e ▸ h3)
      · rw [e] at h3; injection h3 with h3; omega
  refine ⟨hown, by simp [h.len], fun j q p hq hp2 => ?_, h.below⟩
  by_cases hj : j < xs.length
  · rw [List.getElem?_append_left hj] at hq
    rw [List.getElem?_append_left (by rw [← h.len]; exact hj)] at hp2
    exact ⟨(h.each j q p hq hp2).1, (h.each j q p hq hp2).2.1, (h.each j q p hq hp2).2.2.step hg.size hnew⟩
  · have hj2 : j < xs.length + 1 := by have := (List.getElem?_eq_some_iff.1 hq).1; simpa using this
    obtain rfl : j = xs.length := by omega
    rw [List.getElem?_append_right (Nat.le_refl _), Nat.sub_self] at hq
    rw [List.getElem?_append_right (by rw [h.len]; exact Nat.le_refl _), h.len, Nat.sub_self] at hp2
    obtain rfl : y = q := by simpa using hq
    obtain rfl : t = p := by simpa using hp2
    exact ⟨hn, hp, hk.step hg.size hnew⟩
end
theorem ex_table {o : Oper} {a : Act} {w : World} (x y : Operand) (nv : ByteArray) (A : Option Addr) (n c : Nat) (ho : o.op = .build 46 #[(0, x), (2, y)]) (hx : a.eval x = .string nv) (hy : a.eval y = .slice A n c) : (execOp a.eval o).run Tryd.prog w = .ok (.value (.agg #[.string nv, .string ⟨#[]⟩, .slice A n c])) w := by
  generalize a.eval = ρ at hx hy ⊢
  unfold execOp
  simp only [ho]
  go_simp


end Go.Proofs.YtpboaadjbkaidaaDoor

namespace Go.Proofs.YtpboaadjbkaidaaDoor
set_option maxRecDepth 100000

end Go.Proofs.YtpboaadjbkaidaaDoor

namespace Go.Proofs.YtpboaadjbkaidaaDoor
set_option maxRecDepth 100000
open Go.RowKit

/-- The cells of rules read as these rules. -/
def RuC2 (w : World) (xs : List RuV) (l : List Ru) : Prop := xs.length = l.length ∧ ∀ (i : Nat) (x : RuV) (r : Ru), xs[i]? = some x → l[i]? = some r → x.b = r.br ∧ RdE atC 34 w x.u.v r.bf ∧ RdE atC 34 w x.t.v r.af
theorem RuC2.below {w w' : World} {xs : List RuV} {l : List Ru} (h : RuC2 w xs l) (hb : Below w.heap.size w w') : RuC2 w' xs l :=
  ⟨h.1, fun i x r hx hr => ⟨(h.2 i x r hx hr).1, (h.2 i x r hx hr).2.1.below hb (Nat.le_refl _), (h.2 i x r hx hr).2.2.below hb (Nat.le_refl _)⟩⟩
end Go.Proofs.YtpboaadjbkaidaaDoor

namespace Go.Proofs.YtpboaadjbkaidaaDoor
set_option maxRecDepth 100000

end Go.Proofs.YtpboaadjbkaidaaDoor

namespace Go.Proofs.YtpboaadjbkaidaaDoor
set_option maxRecDepth 100000
open Go.RowKit

theorem ex_conv {o : Oper} {a : Act} {w : World} (s d : TypeId) (x : Operand) (vx v : Value) (ho : o.op = .convert s d x) (hx : a.eval x = vx) (hr : (convert s d vx).run Tryd.prog w = .ok v w) : (execOp a.eval o).run Tryd.prog w = .ok (.value v) w := by
  unfold execOp
  simp only [ho, hx, Sem.run_bind, hr, Result.andThen_ok, Sem.run_pure]
theorem ex_make {o : Oper} {a : Act} {w w2 : World} (t : TypeId) (x y : Operand) (vx vy v : Value) (ho : o.op = .makeSlice t x y) (hx : a.eval x = vx) (hy : a.eval y = vy) (hr : (Instr.makeSlice t vx vy).run Tryd.prog w = .ok v w2) : (execOp a.eval o).run Tryd.prog w = .ok (.value v) w2 := by
  unfold execOp
  simp only [ho, hx, hy, Sem.run_bind, hr, Result.andThen_ok, Sem.run_pure]
theorem ex_boxB {o : Oper} {a : Act} {w : World} (x : Operand) (k : Int) (ho : o.op = .buildSlice 23 1 #[(0, x)]) (hx : a.eval x = .int .u8 k) : (execOp a.eval o).run Tryd.prog w = .ok (.value (.slice (some ⟨w.heap.size, 0, none⟩) 1 1)) (w.alloc (.cells #[.int .u8 k] 5)) := by
  generalize a.eval = ρ at hx ⊢
  unfold execOp
  simp only [ho]
  go_simp
theorem ex_boxBg {o : Oper} {a : Act} {w : World} (x : Operand) (k : Int) (g : Nat) (hg : w.heap.size = g) (ho : o.op = .buildSlice 23 1 #[(0, x)]) (hx : a.eval x = .int .u8 k) : (execOp a.eval o).run Tryd.prog w = .ok (.value (.slice (some ⟨g, 0, none⟩) 1 1)) (w.alloc (.cells #[.int .u8 k] 5)) := by
  subst hg
  exact ex_boxB x k ho hx
theorem ex_boxT {o : Oper} {a : Act} {w : World} (x : Operand) (nv pv : ByteArray) (A : Option Addr) (n c : Nat) (ho : o.op = .buildSlice 39 1 #[(0, x)]) (hx : a.eval x = .agg #[.string nv, .string pv, .slice A n c]) : (execOp a.eval o).run Tryd.prog w = .ok (.value (.slice (some ⟨w.heap.size, 0, none⟩) 1 1)) (w.alloc (.cells #[.string nv, .string pv, .slice A n c] 46)) := by
  generalize a.eval = ρ at hx ⊢
  unfold execOp
  simp only [ho]
  go_simp
theorem ex_enterP {a : Act} {w : World} {o : Oper} (x y : Operand) (ts : Array TypeId) (vx vy : Value) (ho : o.op = .call { callee := .value (.func 14), args := #[x, y], argTypes := ts }) (hx : a.eval x = vx) (hy : a.eval y = vy) : (execOp a.eval o).run Tryd.prog w = .ok (.enter 14 #[vx, vy]) w := by
  have hf : a.eval (.func 14) = .func (.func 14) #[] #[] := rfl
  generalize a.eval = ρ at hx hy hf ⊢
  unfold execOp
  simp only [ho]
  go_simp
theorem run_str_cell (x : Int) (h0 : 0 ≤ x) (h1 : x < 256) (b : Nat) (w : World) (h : w.cell? ⟨b, 0, none⟩ = some (.int .u8 x)) :
    (convert 23 9 (.slice (some ⟨b, 0, none⟩) 1 1)).run Tryd.prog w = .ok (.string ⟨#[UInt8.ofNat x.toNat]⟩) w := by
  refine run_convert_bytes_back w 23 9 5 ⟨b, 0, none⟩ 1 [UInt8.ofNat x.toNat] Tryd.underlying23 Tryd.underlying5 Tryd.underlying9 (fun j hj => ?_)
  have hj0 : j = 0 := by simpa using hj
  subst hj0
  show w.cell? ⟨b, 0, none⟩ = _
  rw [h]
  congr 2
  simp only [List.getElem_cons_zero, UInt8.toNat_ofNat']
  omega
theorem wp_appL {o : Oper} {a : Act} {K : Act → World → Prop} {Q : Exit → Act → World → Prop} {w : World} {α : Type} (hgd : o.guard = none) (s x : Operand) (t e : TypeId)
    (ho : o.op = .call { callee := .builtin .append, args := #[s, x], argTypes := #[t, t] })
    (ht : Tryd.prog.underlying t = some (.slice e)) (z : Value) (f : α → List Value) (size bytes : Nat) (hinfo : (Tryd.prog.info? e).map (fun i => (i.zero, i.size, i.bytes)) = some (some z, size, bytes)) (hzs : z.cells.size = size) (hsz : 0 < size)
    (hm : ∀ x, (f x).length = size) (h1 : ∀ x, ∀ u ∈ f x, u.oneCell' = true)
    (base : Nat) (v : Value) (l : List α) (hs : a.eval s = v) (hown : w.ownsRow base e size v l.length (l.flatMap f))
    (v2 : Value) (l2 : List α) (hx : a.eval x = v2) (hrd : RdE f size w v2 l2)
    (hbytes : (l.length + l2.length) * bytes ≤ 140737488355328) (hb1 : 1 ≤ bytes) (hbase : base ≤ w.heap.size)
    (h : ∀ v' w', w'.ownsRow base e size v' (l ++ l2).length ((l ++ l2).flatMap f) → (∀ B W, B ≤ base → Below B W w → Below B W w') → w.grownBy w' v.ownBlock → (v'.ownBlock = v.ownBlock ∨ v'.ownBlock = some w.heap.size) → K (a.put o.dst v') w') :
    Oper.wp Tryd.prog o a w K Q := by
  have hh := step_appE (P := Tryd.prog) (ops := #[]) (E := True) (Q := Q) hgd s x t e ho ht z f size bytes hinfo hzs hsz hm h1 base v l hs hown v2 l2 hx hrd hbytes hb1 hbase h
  rw [if_pos (by unfold Region.wanted; rw [hgd])] at hh
  exact hh
/-- A row of n zero elements. -/
theorem rdE_made2 {α : Type} (f : α → List Value) (m : Nat) (hm : ∀ x, (f x).length = m) (z : α) (n : Nat) (t : TypeId) (w : World) : RdE f m (w.alloc (.cells (madeCells (f z).toArray (n * m)) t)) (.slice (some ⟨w.heap.size, 0, none⟩) n n) (List.replicate n z) := by
  refine ⟨some ⟨w.heap.size, 0, none⟩, n, by simp, by simp, (fun h => by cases h), fun _ => ⟨w.heap.size, 0, rfl, by simp, fun i y j u hi hj => ?_⟩⟩
  have hin : i < n := by have := (List.getElem?_eq_some_iff.1 hi).1; simpa using this
  have hy : y = z := by
    rw [List.getElem?_replicate] at hi
    rw [if_pos hin] at hi
    exact (Option.some.inj hi).symm
  subst hy
  have hjm : j < m := by rw [← hm y]; exact (List.getElem?_eq_some_iff.1 hj).1
  have hlt : i * m + j < n * m := by
    have : (i + 1) * m ≤ n * m := Nat.mul_le_mul_right m hin
    rw [Nat.succ_mul] at this
    omega
  have h := cells_new w (madeCells (f y).toArray (n * m)).toList t (i * m + j) u (by
    unfold madeCells
    simp only [Array.toList_map, Array.toList_range, List.getElem?_map, List.getElem?_range hlt, Option.map_some]
    have e : (f y).toArray.size = m := by simpa using hm y
    rw [e, Nat.mul_comm i m, Nat.mul_add_mod, Nat.mod_eq_of_lt hjm]
    simp [getElem!_def, hj])
  rw [Addr.add_lit] at h
  simpa using h
def zRu : RuV := ⟨false, ⟨none, 0, 0⟩, ⟨none, 0, 0⟩⟩
def zR : Ru := ⟨false, [], []⟩
theorem run_make_rules (n : Nat) (hn : n ≤ 1000) (w : World) : (Instr.makeSlice 31 (.int .i64 (n : Int)) (.int .i64 (n : Int))).run Tryd.prog w = .ok (.slice (some ⟨w.heap.size, 0, none⟩) n n) (w.alloc (.cells (madeCells (ruC zRu).toArray (n * 3)) 30)) := by
  obtain ⟨i, hi, hz, hs, hb⟩ := info_parts rule_info
  have h := run_make (P := Tryd.prog) w 31 30 i _ Tryd.underlying31 hi hz .i64 .i64 (n : Int) (n : Int) (by omega) (Int.le_refl _) (by rw [hb]; omega) (by omega)
  rw [hs] at h
  exact h
theorem byte_info : (Tryd.prog.info? 5).map (fun i => (i.zero, i.size, i.bytes)) = some (some (.int .u8 0), 1, 1) := by kernel_rfl
theorem run_make_bytes (n : Nat) (hn : n ≤ 1000000) (w : World) : (Instr.makeSlice 23 (.int .i64 (n : Int)) (.int .i64 (n : Int))).run Tryd.prog w = .ok (.slice (some ⟨w.heap.size, 0, none⟩) n n) (w.alloc (.cells (madeCells #[.int .u8 0] (n * 1)) 5)) := by
  obtain ⟨i, hi, hz, hs, hb⟩ := info_parts byte_info
  have h := run_make (P := Tryd.prog) w 23 5 i _ Tryd.underlying23 hi hz .i64 .i64 (n : Int) (n : Int) (by omega) (Int.le_refl _) (by rw [hb]; omega) (by omega)
  rw [hs] at h
  exact h
theorem lim_in (ts : List Tb) (h : ts.length ≤ 17) (hs : ∀ t ∈ ts, t.nm.size ≤ 2 ∧ t.pa.size ≤ 2) : TbIn ts :=
  ⟨Nat.le_trans h (by unfold maxLen; decide), fun t ht => ⟨Nat.le_trans (hs t ht).1 (by unfold maxLen; decide), Nat.le_trans (hs t ht).2 (by unfold maxLen; decide)⟩⟩
def bytesN (k m : Nat) : Array Value := (List.replicate k (Value.int .u8 10) ++ List.replicate (m - k) (Value.int .u8 0)).toArray
theorem bytesN_zero (m : Nat) : madeCells #[.int .u8 0] (m * 1) = bytesN 0 m := by
  unfold bytesN madeCells
  apply Array.ext
  · simp
  · intro i h1 h2
    simp [Nat.mod_one]
theorem bytesN_step (k m : Nat) (h : k < m) : (bytesN k m).setIfInBounds k (.int .u8 10) = bytesN (k + 1) m := by
  unfold bytesN
  rw [List.setIfInBounds_toArray]
  congr 1
  rw [List.set_append_right _ _ (by simp), List.length_replicate, Nat.sub_self, show m - k = (m - (k + 1)) + 1 by omega, List.replicate_succ, List.set_cons_zero, List.replicate_succ', List.append_assoc]
  rfl
theorem bytesN_get (k m j : Nat) (h : j < m) : (bytesN k m)[j]? = some (if j < k then Value.int .u8 10 else Value.int .u8 0) := by
  unfold bytesN
  rw [List.getElem?_toArray]
  by_cases hj : j < k
  · rw [List.getElem?_append_left (by simpa using hj), if_pos hj, List.getElem?_replicate, if_pos hj]
  · rw [List.getElem?_append_right (by simpa using Nat.le_of_not_lt hj), if_neg hj, List.length_replicate, List.getElem?_replicate, if_pos (by omega)]
theorem run_nl (m b : Nat) (w : World) (h : w.heap[b]? = some (.cells (bytesN m m) 5)) :
    (convert 23 9 (.slice (some ⟨b, 0, none⟩) m m)).run Tryd.prog w = .ok (.string (nlF m)) w := by
  have hh := run_convert_bytes_back w 23 9 5 ⟨b, 0, none⟩ m (List.replicate m (10 : UInt8)) Tryd.underlying23 Tryd.underlying5 Tryd.underlying9 (fun j hj => by
    have hjm : j < m := by simpa using hj
    rw [Addr.add_lit, Nat.zero_add, cell_of_row w b j _ _ _ h]
    rw [bytesN_get m m j hjm, if_pos hjm]
    simp)
  rw [List.length_replicate] at hh
  exact hh
theorem rdRu_made {w : World} {v : Value} (n : Nat) (h : RdE ruC 3 w v (List.replicate n zRu)) : RdRu w v (List.replicate n zR) := by
  refine ⟨_, h, by simp, fun i x r hx hr => ?_⟩
  have e1 : x = zRu := by
    have := List.mem_of_getElem? hx
    exact List.eq_of_mem_replicate this
  have e2 : r = zR := by
    have := List.mem_of_getElem? hr
    exact List.eq_of_mem_replicate this
  subst e1 e2
  exact ⟨rfl, RdE.nil, RdE.nil⟩

end Go.Proofs.YtpboaadjbkaidaaDoor
