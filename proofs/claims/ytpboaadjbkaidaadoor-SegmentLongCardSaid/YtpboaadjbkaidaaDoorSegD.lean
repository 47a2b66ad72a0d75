
/-
  A line's tables; a rule file's: the program's.
-/
import Derived.Test.YtpboaadjbkaidaaDoorSegC
namespace Go.Proofs.YtpboaadjbkaidaaDoor
set_option maxRecDepth 100000
open Go.RowKit

theorem got_lt {w : World} {m : Int} (h : w.cell? ⟨0, 0, none⟩ = some (.int .i64 m)) : 0 < w.heap.size := by
  unfold World.cell? at h
  split at h
  · rename_i hh
    exact (Array.getElem?_eq_some_iff.1 hh).1
  · cases h
theorem wordsL_len (l : List UInt8) : ∀ w ∈ wordsL l, w.length ≤ l.length := by
  have : ∀ (l cur : List UInt8), ∀ w ∈ wordsA cur l, w.length ≤ cur.length + l.length := by
    intro l
    induction l with
    | nil =>
      intro cur w hw
      rw [wordsA] at hw
      split at hw
      · simp at hw
      · simp at hw; subst hw; simp
    | cons b l ih =>
      intro cur w hw
      rw [wordsA] at hw
      split at hw
      · rcases List.mem_append.1 hw with hw | hw
        · split at hw
          · simp at hw
          · simp at hw; subst hw; simp
        · have := ih [] w hw
          simp at this ⊢
          omega
      · have := ih _ w hw
        simp at this ⊢
        omega
  intro w hw
  have := this l [] w hw
  simpa using this
theorem line_len (ts : List Tb) (w : List (List UInt8)) (h : (lineF ts w).2 = 0) (hl : ts.length ≤ 16) : (lineF ts w).1.length ≤ 16 := by
  unfold lineF at h ⊢
  split at h
  · rename_i h1
    rw [if_pos h1]
    unfold tableF at h ⊢
    split at h
    · exact absurd h (by decide)
    · rename_i h2
      rw [if_neg h2]
      split at h
      · exact absurd h (by decide)
      · rename_i h3
        rw [if_neg h3]
        split at h
        · exact absurd h (by decide)
        · rename_i h4
          rw [if_neg h4]
          split at h
          · exact absurd h (by decide)
          · rename_i h5
            rw [if_neg h5]
            simp
            omega
  · rename_i h1
    rw [if_neg h1]
    split at h
    · rename_i h2
      rw [if_pos h2]
      unfold ruleF at h ⊢
      split at h
      · exact absurd h (by decide)
      · rename_i h3
        rw [if_neg h3]
        split at h
        · exact absurd h (by decide)
        · rename_i h4
          rw [if_neg h4]
          split at h
          · rename_i h5; exact absurd h h5
          · rename_i h5
            rw [if_neg h5]
            split at h
            · rename_i h6; exact absurd h h6
            · rename_i h6
              rw [if_neg h6]
              split at h
              · exact absurd h (by decide)
              · rename_i h7
                rw [if_neg h7, addLast_len]
                exact hl
    · exact absurd h (by decide)
/-- What a call gives that reads a rule file. -/
def RetTbs (w : World) (r : List Tb × Nat × Int) (e : Ending) (w' : World) : Prop := ∃ v, e = .returned (.tuple #[v, .int .i64 (r.2.1 : Nat), .int .i64 r.2.2]) ∧ RdTb w' v r.1 ∧ Below w.heap.size w w'

set_option maxRecDepth 100000 in
set_option maxHeartbeats 8000000 in
theorem addLine_any (B : Nat) (w : World) (v wv : Value) (ts : List Tb) (xs : List TbV) (rv : Sl) (ys : List RuV) (ws : List ByteArray) (ht : TS 46 30 B w v ts xs rv ys) (hw : RdE strC 1 w wv ws) (hB : B ≤ w.heap.size) (hl : ts.length ≤ 16) (hws : ∀ s ∈ ws, s.size ≤ 2147483648) (h0 : ws ≠ []) :
    Calls Tryd.prog 54 #[v, wv] w (RetTab B w (lineF ts (ws.map fun s => s.data.toList))) := by
  obtain ⟨R, HRR⟩ : ∃ R, Hid (R = RetTab B w (lineF ts (ws.map fun s => s.data.toList))) := ⟨_, rfl⟩
  rw [← HRR.out]
  have HTB := Lib.hid (addTable_any B w v wv ts xs rv ys ws ht hw hB hl hws)
  have HRU := Lib.hid (addRule_any B w v wv ts xs rv ys ws ht hw hB hl hws)
  obtain ⟨Av, cv, rfl⟩ := ht.rd.shape
  obtain ⟨Aw, cw, rfl, hlw, _⟩ := hw.shape
  obtain ⟨a, ws2, rfl⟩ : ∃ a ws2, ws = a :: ws2 := by
    match ws, h0 with
    | a :: l, _ => exact ⟨a, l, rfl⟩
  obtain ⟨bb, o, rfl, hbl, hcell⟩ := hw.cells (by simp)
  have q0 := hcell 0 a 0 (.string a) rfl rfl
  rw [show o + (0 * 1 + 0) = o by omega] at q0
  have hlp : (0 : Int) < ((a :: ws2).length : Int) := by (simp <;> omega)
  clear hcell ht hw h0 hws
  have e : lineF ts ((a :: ws2).map fun s => s.data.toList) = if a.data.toList = wTable then tableF ts ((a :: ws2).map fun s => s.data.toList) else if a.data.toList = wBreak ∨ a.data.toList = wKeep then ruleF ts ((a :: ws2).map fun s => s.data.toList) else ([], 2) := rfl
  generalize lineF ts ((a :: ws2).map fun s => s.data.toList) = rr at e HRR
  generalize tableF ts ((a :: ws2).map fun s => s.data.toList) = r1 at e HTB
  generalize ruleF ts ((a :: ws2).map fun s => s.data.toList) = r2 at e HRU
  generalize (a :: ws2).length = nw at hlp HTB HRU hlw ⊢
  unfold RetTab at HTB HRU
  by_cases ht1 : a.data.toList = wTable
  · have t1 : (a.toList == [116, 97, 98, 108, 101]) = true := by rw [toList_eq_data, ht1]; rfl
    have e0 : rr = r1 := by rw [e, if_pos ht1]
    clear e ht1
    go_enter Tryd.func54, Tryd.ntmps54
    go_wp2_with (go_at_call 87; refine HTB.out.mono ?_; rintro e w2 ⟨v2, x2, rfl, hx2, ht2, hb2⟩; subst hx2)
    rw [HRR.out, e0]
    exact ⟨v2, _, rfl, rfl, ht2, hb2⟩
  have t1 : (a.toList == [116, 97, 98, 108, 101]) = false := by rw [toList_eq_data]; exact beq_eq_false_iff_ne.2 ht1
  by_cases ht2 : a.data.toList = wBreak
  · have t2 : (a.toList == [98, 114, 101, 97, 107]) = true := by rw [toList_eq_data, ht2]; rfl
    have e0 : rr = r2 := by rw [e, if_neg ht1, if_pos (.inl ht2)]
    clear e ht1 ht2
    go_enter Tryd.func54, Tryd.ntmps54
    go_wp2_with (go_at_call 88; refine HRU.out.mono ?_; rintro e w2 ⟨v2, x2, rfl, hx2, ht2, hb2⟩; subst hx2)
    rw [HRR.out, e0]
    exact ⟨v2, _, rfl, rfl, ht2, hb2⟩
  have t2 : (a.toList == [98, 114, 101, 97, 107]) = false := by rw [toList_eq_data]; exact beq_eq_false_iff_ne.2 ht2
  by_cases ht3 : a.data.toList = wKeep
  · have t3 : (a.toList == [107, 101, 101, 112]) = true := by rw [toList_eq_data, ht3]; rfl
    have e0 : rr = r2 := by rw [e, if_neg ht1, if_pos (.inr ht3)]
    clear e ht1 ht2 ht3
    go_enter Tryd.func54, Tryd.ntmps54
    go_wp2_with (go_at_call 88; refine HRU.out.mono ?_; rintro e w2 ⟨v2, x2, rfl, hx2, ht2, hb2⟩; subst hx2)
    rw [HRR.out, e0]
    exact ⟨v2, _, rfl, rfl, ht2, hb2⟩
  have t3 : (a.toList == [107, 101, 101, 112]) = false := by rw [toList_eq_data]; exact beq_eq_false_iff_ne.2 ht3
  have e0 : rr = ([], 2) := by rw [e, if_neg ht1, if_neg (by rintro (h | h); exact ht2 h; exact ht3 h)]
  clear e ht1 ht2 ht3
  go_enter Tryd.func54, Tryd.ntmps54
  go_wp2_with fail
  rw [HRR.out, e0]
  exact ⟨_, _, rfl, rfl, fun h => absurd h (by decide), Below.refl _ _⟩

set_option maxRecDepth 100000 in
set_option maxHeartbeats 8000000 in
theorem segParse_any (s : ByteArray) (w : World) (hg : Got w) : Calls Tryd.prog 20 #[.string s] w (RetTbs w (rulesF s)) := by
  obtain ⟨R, HRR⟩ : ∃ R, Hid (R = RetTbs w (rulesF s)) := ⟨_, rfl⟩
  rw [← HRR.out]
  by_cases h16 : 65536 < s.size
  · have h16i : (65536 : Int) < (s.size : Int) := by omega
    have e0 : rulesF s = ([], 0, 3) := by unfold rulesF; rw [if_pos h16]
    go_enter Tryd.func20, Tryd.ntmps20
    go_wp2_with fail
    go_ret3
    rw [HRR.out, e0]
    exact ⟨_, rfl, RdTb.nil, Below.refl _ _⟩
  have h16i : ¬ (65536 : Int) < (s.size : Int) := by omega
  obtain ⟨r, hr⟩ : ∃ r, rulesF s = r := ⟨_, rfl⟩
  have HR0 : Hid (linesF (linesL s.data.toList) 0 [] = r) := by show _ = _; rw [← hr]; unfold rulesF; rw [if_neg h16]
  have hsl : s.data.toList.length ≤ 65536 := by rw [← Lib.size_eq]; omega
  rw [hr] at HRR
  clear hr h16
  go_enter Tryd.func20, Tryd.ntmps20
  go_wp2_with fail
  obtain ⟨wo, HWO⟩ : ∃ wo, Hid (wo = w) := ⟨w, rfl⟩
  go_loopg [0, 2, 3, 4] s.data.toList.length (fun gk tv v kv ev wr => ∃ (t : ByteArray) (v' : Value) (k : Nat) (ts : List Tb) (xs : List TbV) (rv : Sl) (ys : List RuV), tv = .string t ∧ v = v' ∧ kv = .int .i64 (k : Nat) ∧ ev = .int .i64 0 ∧ Hid (TS 46 30 w.heap.size wr v' ts xs rv ys) ∧ Hid (Below w.heap.size w wr) ∧ Hid (linesF (linesL t.data.toList) k ts = r) ∧ ts.length ≤ 16 ∧ t.data.toList.length + k ≤ 65536 ∧ t.data.toList.length ≤ gk)
  case atStart => exact ⟨s, _, 0, [], [], ⟨none, 0, 0⟩, [], rfl, rfl, rfl, rfl, TS.start, Below.refl _ _, HR0.out, by simp, by omega, Nat.le_refl _⟩
  case round =>
    clear HR0 hsl
    obtain ⟨t, v, k, ts, xs, rv, ys, rfl, rfl, rfl, rfl, HT, HB, HR, hl16, htl, hgk⟩ := hrel
    obtain ⟨Av, cv, hv⟩ := HT.out.rd.shape
    subst hv
    by_cases he : t.data.toList = []
    · have t1 : (t.toList != []) = false := by rw [toList_eq_data, he]; rfl
      have t2 : t.toList.isEmpty = true := by rw [toList_eq_data, he]; rfl
      have e0 : r = (ts, 0, 0) := by rw [← HR.out, he]; rfl
      clear he HR
      go_wp2_with fail
      go_ret3
      rw [HRR.out, e0]
      exact ⟨_, rfl, HT.out.rd, HB.out⟩
    have t1 : (t.toList != []) = true := by rw [toList_eq_data]; exact bne_iff_ne.2 he
    have t2 : t.toList.isEmpty = false := by rw [toList_eq_data]; exact List.isEmpty_eq_false_iff.2 he
    obtain ⟨m, hm⟩ := hg
    have hm2 : wr.cell? ⟨0, 0, none⟩ = some (.int .i64 m) := (HB.out.cell (p := ⟨0, 0, none⟩) (got_lt hm)).trans hm
    have hts : t.size ≤ 65536 := by rw [Lib.size_eq]; omega
    have HC := Lib.hid (Tryd.strings_Cut t ⟨#[10]⟩ m wr (by omega) hm2)
    have hcl := cut_lines t.data.toList he
    have hcn := cut_len t.data.toList he
    have hcf := cut_fst t.data.toList
    rw [show (⟨#[10]⟩ : ByteArray).data.toList = [10] from rfl] at HC
    have HR1 : Hid (linesF (linesL t.data.toList) k ts = r) := HR.out
    rw [hcl] at HR1
    generalize Lib.cut t.data.toList [10] = cc at HC hcn hcf HR1
    clear hcl HR
    obtain ⟨c1, c2, c3⟩ := cc
    simp only at HC hcn hcf HR1
    go_upto_region 7 with (go_at_call 52; refine HC.out.mono ?_; rintro e w1 ⟨rfl, n1, rfl⟩)
    have HT1 := Lib.hid (HT.out.keep (w' := wr.drewN n1) (Nat.le_refl _) (fun b _ => rfl))
    have HB1 : Hid (Below w.heap.size w (wr.drewN n1)) := below_drewN HB.out n1
    clear HT HB HC hm2
    generalize wr.drewN n1 = w1 at HT1 HB1 ⊢
    change Hid (linesF (c1 :: linesL c2) k ts = r) at HR1
    have hm3 : Got w1 := ⟨m, (HB1.out.cell (p := ⟨0, 0, none⟩) (got_lt hm)).trans hm⟩
    have hofl : ∀ l : List UInt8, (⟨l.toArray⟩ : ByteArray) = ofL l := fun _ => rfl
    rw [hofl c1, hofl c2]
    have hcs : (ofL c1).size ≤ 65536 := by rw [Lib.size_eq, ofL_list]; omega
    have HW := Lib.hid (words_any (ofL c1) w1 (by omega) hm3)
    have hwd : wordsL (ofL c1).data.toList = wordsL c1 := by rw [ofL_list]
    have hwm : (wordsB (ofL c1)).map (fun s => s.data.toList) = wordsL c1 := by
      unfold wordsB
      rw [hwd, List.map_map]
      exact (List.map_congr_left fun x _ => ofL_list x).trans (List.map_id _)
    have hwb : ∀ x ∈ wordsB (ofL c1), x.size ≤ 65536 := fun x hx => by
      have h1 : x.data.toList ∈ wordsL c1 := by rw [← hwm]; exact List.mem_map_of_mem hx
      have := wordsL_len c1 _ h1
      rw [Lib.size_eq]; omega
    have hwn : ∀ x ∈ wordsB (ofL c1), x.data.toList ≠ [] := fun x hx => wordsL_ne c1 _ (by rw [← hwm]; exact List.mem_map_of_mem hx)
    unfold RetWords at HW
    generalize wordsB (ofL c1) = ws at HW hwm hwb hwn
    clear hwd hm hm3
    go_wp2_with fail
    refine HW.out.mono ?_
    rintro e w2 ⟨wv, rfl, ho2, hb2⟩
    go_upto_region 8 with fail
    have HT2 := Lib.hid (HT1.out.below hb2 (Nat.le_refl _))
    have HB2 := Lib.hid (HB1.out.trans (hb2.mono HB1.out.size))
    have HRW := Lib.hid (OwnE.rd (f := strC) (m := 1) (fun _ => rfl) ho2)
    obtain ⟨Aw, cw, hwv⟩ := own_shape ho2
    subst hwv
    clear ho2 hb2 HT1 HB1 HW
    have HRL : Hid (r = if idle (wordsL c1) = true then linesF (linesL c2) (k + 1) ts else if (lineF ts (wordsL c1)).2 ≠ 0 then ([], k + 1, (lineF ts (wordsL c1)).2) else linesF (linesL c2) (k + 1) (lineF ts (wordsL c1)).1) := HR1.out.symm
    rw [← hwm] at HRL
    clear HR1 hwm
    rcases ws with _ | ⟨a, ws2⟩
    · have e1 : linesF (linesL c2) (k + 1) ts = r := (HRL.out.trans (if_pos rfl)).symm
      go_wp2_with fail
      go_roundg c2.length
      case measure => omega
      case rel => exact ⟨ofL c2, _, k + 1, ts, xs, rv, ys, rfl, rfl, by go_num, rfl, HT2.out, HB2.out, by (show linesF _ _ _ = _); rw [ofL_list]; exact e1, hl16, by rw [ofL_list]; omega, by rw [ofL_list]; exact Nat.le_refl _⟩
    · obtain ⟨bb, o, rfl, hbl, hcell⟩ := HRW.out.cells (by simp)
      have q0 := hcell 0 a 0 (.string a) rfl rfl
      rw [show o + (0 * 1 + 0) = o by omega] at q0
      clear hcell
      have ha := hwn a (by simp)
      have ha0 : 0 < a.size := by rw [Lib.size_eq]; exact List.length_pos_iff.2 ha
      have ha0i : (0 : Int) < (a.size : Int) := by omega
      have hid : idle ((a :: ws2).map fun s => s.data.toList) = (a[0].toNat == 35) := by
        show (a.data.toList.head? == some 35) = _
        have e1 : a.data.toList.head? = some a[0] := by
          rw [List.head?_eq_getElem?, List.getElem?_eq_getElem (by rw [← Lib.size_eq]; exact ha0)]
          rfl
        rw [e1, Bool.eq_iff_iff]
        simp [← UInt8.toNat_inj]
      have hlen := line_len ts ((a :: ws2).map fun s => s.data.toList)
      have HAD := Lib.hid (addLine_any w.heap.size w2 _ _ ts xs rv ys (a :: ws2) HT2.out HRW.out HB2.out.size hl16 (fun x hx => Nat.le_trans (hwb x hx) (by decide)) (by simp))
      unfold RetTab at HAD
      rw [hid] at HRL
      generalize lineF ts ((a :: ws2).map fun s => s.data.toList) = lr at HAD HRL hlen
      have hnw : (1 : Nat) ≤ (a :: ws2).length := by simp
      clear hid ha hwb hwn HRW
      generalize (a :: ws2).length = nw at HAD hnw ⊢
      have hnwi : ((nw : Int) == 0) = false := beq_eq_false_iff_ne.2 (by omega)
      have hnwj : (0 : Int) < (nw : Int) := by omega
      by_cases h35 : a[0].toNat = 35
      · have t35 : (((a[0].toNat : Nat) : Int) == 35) = true := by rw [h35]; rfl
        have e1 : linesF (linesL c2) (k + 1) ts = r := (HRL.out.trans (if_pos (by rw [h35]; rfl))).symm
        clear h35 HAD HRL
        go_wp2_with fail
        go_roundg c2.length
        case measure => omega
        case rel => exact ⟨ofL c2, _, k + 1, ts, xs, rv, ys, rfl, rfl, by go_num, rfl, HT2.out, HB2.out, by (show linesF _ _ _ = _); rw [ofL_list]; exact e1, hl16, by rw [ofL_list]; omega, by rw [ofL_list]; exact Nat.le_refl _⟩
      · have t35 : (((a[0].toNat : Nat) : Int) == 35) = false := beq_eq_false_iff_ne.2 (by omega)
        rw [beq_eq_false_iff_ne.2 h35, if_neg Bool.false_ne_true] at HRL
        clear h35
        obtain ⟨l1, x1⟩ := lr
        simp only at HAD HRL hlen
        by_cases hx : x1 = 0
        · have e1 : linesF (linesL c2) (k + 1) l1 = r := by rw [HRL.out, if_neg (not_not_intro hx)]
          have tx : (x1 != 0) = false := by simpa using hx
          clear HRL
          go_wp2_with (go_at_call 54; refine HAD.out.mono ?_; rintro e w3 ⟨v3, x3, rfl, hx3, ht3, hb3⟩; subst hx3)
          obtain ⟨xs3, rv3, ys3, HT3⟩ := ht3 hx
          go_roundg c2.length
          case measure => omega
          case rel => exact ⟨ofL c2, v3, k + 1, l1, xs3, rv3, ys3, rfl, rfl, by go_num, by first | rfl | (rw [hx]), HT3, HB2.out.trans hb3, by (show linesF _ _ _ = _); rw [ofL_list]; exact e1, hlen hx hl16, by rw [ofL_list]; omega, by rw [ofL_list]; exact Nat.le_refl _⟩
        · have e1 : r = ([], k + 1, x1) := by rw [HRL.out, if_pos hx]
          have tx : (x1 != 0) = true := bne_iff_ne.2 hx
          clear HRL
          go_wp2_with (go_at_call 54; refine HAD.out.mono ?_; rintro e w3 ⟨v3, x3, rfl, hx3, ht3, hb3⟩; subst hx3)
          go_ret3
          rw [HRR.out, e1]
          exact ⟨_, rfl, RdTb.nil, HB2.out.trans hb3⟩

end Go.Proofs.YtpboaadjbkaidaaDoor
