/-
  Contracts and plain laws, part 7 of those that this chapter's claims share.
-/
import Derived.Test.YtpboaadjbkaidaaDoorPack6
import Derived.Test.YtpboaadjbkaidaaDoorPack4
import Derived.Test.YtpboaadjbkaidaaDoorPack5
import Derived.Test.YtpboaadjbkaidaaDoorPack2
import Derived.Maps.Own
import Derived.Maps.OwnOps
import Derived.Maps.Views
import Derived.Test.YtpboaadjbkaidaaDoorPack3
import Derived.Test.YtpboaadjbkaidaaDoorPack1
namespace Go.Proofs.YtpboaadjbkaidaaDoor
set_option maxRecDepth 100000
open Go.RowKit

theorem ofL_size (l : List UInt8) : (ofL l).size = l.length := by rw [Lib.size_eq, ofL_list]
set_option maxRecDepth 100000 in
set_option maxHeartbeats 8000000 in
theorem rrules_any (s : ByteArray) (w : World) : Calls Tryd.prog 21 #[.string s] w (RetTbs w (rulesF s)) := by
  obtain ⟨R, HRR⟩ : ∃ R, Hid (R = RetTbs w (rulesF s)) := ⟨_, rfl⟩
  rw [← HRR.out]
  by_cases h16 : 65536 < s.size
  · have h16i : (65536 : Int) < (s.size : Int) := by omega
    have e0 : rulesF s = ([], 0, 3) := by unfold rulesF; rw [if_pos h16]
    go_enter Tryd.func21, Tryd.ntmps21
    go_wp2_with fail
    go_ret3
    rw [HRR.out, e0]
    exact ⟨_, rfl, RdTb.nil, Below.refl _ _⟩
  have h16i : ¬ (65536 : Int) < (s.size : Int) := by omega
  obtain ⟨r, hr⟩ : ∃ r, rulesF s = r := ⟨_, rfl⟩
  have HR0 : Hid (linesF (linesL s.data.toList) 0 [] = r) := by show _ = _; rw [← hr]; unfold rulesF; rw [if_neg h16]
  rw [hr] at HRR
  have hlc := linesL_count s.data.toList
  have hll := linesL_len s.data.toList
  have hss : s.data.toList.length ≤ 65536 := by rw [← Lib.size_eq]; omega
  have HLI := Lib.hid (rlines_any s w (by omega))
  unfold RetLines at HLI
  have HLB : Hid (∀ x ∈ linesL s.data.toList, x.length ≤ 65536) := fun x hx => Nat.le_trans (hll x hx) hss
  have hln : (linesL s.data.toList).length ≤ 65536 := Nat.le_trans hlc hss
  generalize linesL s.data.toList = ls at HR0 HLI HLB hln
  clear hlc hll hss hr h16
  obtain ⟨N, hN⟩ : ∃ N, N = ls.length := ⟨_, rfl⟩
  have hml : (ls.map ofL).length = N := by rw [List.length_map, hN]
  go_enter Tryd.func21, Tryd.ntmps21
  go_wp2_with (go_at_call 55; refine HLI.out.mono ?_; rintro e w1 ⟨vl, rfl, hol, hb1⟩; obtain ⟨Al, cl, hvl⟩ := own_shape hol; rw [hml] at hvl; subst hvl)
  have HRL := Lib.hid (OwnE.rd (f := strC) (m := 1) (fun _ => rfl) hol)
  have HB1 := Lib.hid hb1
  clear hol hb1 HLI
  obtain ⟨wo, HWO⟩ : ∃ wo, Hid (wo = w1) := ⟨w1, rfl⟩
  go_loopg [5, 6, 7, 8, 9, 10, 17] N (fun gk tv iv sv wv av bv kv wr => ∃ (v' : Value) (k : Nat) (ts : List Tb) (xs : List TbV) (rv : Sl) (ys : List RuV), tv = v' ∧ kv = .int .i64 (k : Nat) ∧ k ≤ N ∧ Hid (TS 46 30 w1.heap.size wr v' ts xs rv ys) ∧ Hid (Below w1.heap.size w1 wr) ∧ Hid (linesF (ls.drop k) k ts = r) ∧ ts.length ≤ 16 ∧ N - k ≤ gk)
  case atStart => exact ⟨_, 0, [], [], ⟨none, 0, 0⟩, [], rfl, rfl, by omega, TS.start, Below.refl _ _, by (show _ = _); rw [List.drop_zero]; exact HR0.out, by simp, by omega⟩
  case round =>
    clear HR0 HWO
    obtain ⟨v, k, ts, xs, rv, ys, rfl, rfl, hk, HT, HB, HR, hl16, hgk⟩ := hrel
    obtain ⟨Av, cv, hv⟩ := HT.out.rd.shape
    subst hv
    by_cases hkl : k < N
    · have hki : (k : Int) < (N : Int) := by omega
      have hk0 : (0 : Int) ≤ (k : Int) := by omega
      have hkn : k < ls.length := by omega
      obtain ⟨b0, o0, hAl, hb0, hc0⟩ := HRL.out.cells (by omega)
      have hAl' : Al = some ⟨b0, o0, none⟩ := hAl
      subst hAl'
      have q0 := (HB.out.cell (p := ⟨b0, o0 + (k * 1 + 0), none⟩) hb0).trans (hc0 k (ofL ls[k]) 0 (.string (ofL ls[k])) (by rw [List.getElem?_map, List.getElem?_eq_getElem hkn]; rfl) rfl)
      rw [show o0 + (k * 1 + 0) = o0 + k by omega] at q0
      have hcl := HLB.out ls[k] (List.getElem_mem hkn)
      have HR1 : Hid (linesF (ls[k] :: ls.drop (k + 1)) k ts = r) := by
        show _ = _
        rw [← List.drop_eq_getElem_cons hkn]
        exact HR.out
      clear hc0 hAl HR
      generalize ls[k] = c1 at q0 hcl HR1
      have HW := Lib.hid (fun w' => rwords_any (ofL c1) w' (by rw [ofL_size]; omega))
      have hwd : wordsL (ofL c1).data.toList = wordsL c1 := by rw [ofL_list]
      have hwm : (wordsB (ofL c1)).map (fun s => s.data.toList) = wordsL c1 := by
        unfold wordsB
        rw [hwd, List.map_map]
        exact (List.map_congr_left fun x _ => ofL_list x).trans (List.map_id _)
      have hwb : ∀ x ∈ wordsB (ofL c1), x.size ≤ 65536 := fun x hx => by
        have h1 : x.data.toList ∈ wordsL c1 := by rw [← hwm]; exact List.mem_map_of_mem hx
        have := wordsL_len c1 _ h1
        rw [Lib.size_eq]; omega
      have hwn : ∀ x ∈ wordsB (ofL c1), x.data.toList ≠ [] := fun x hx => wordsL_ne c1 _ (by rw [← hwm]; exact List.mem_map_of_mem hx)
      unfold RetWords at HW
      generalize wordsB (ofL c1) = ws at HW hwm hwb hwn
      clear hwd
      go_upto_region 8 with (go_at_call 56; refine (HW.out _).mono ?_; rintro e w2 ⟨wv, rfl, ho2, hb2⟩)
      have HT2 := Lib.hid (HT.out.below hb2 (Nat.le_refl _))
      have HB2 := Lib.hid (HB.out.trans (hb2.mono HB.out.size))
      have HRW := Lib.hid (OwnE.rd (f := strC) (m := 1) (fun _ => rfl) ho2)
      obtain ⟨Aw, cw, hwv⟩ := own_shape ho2
      subst hwv
      clear ho2 hb2 HT HB HW q0
      have HRX : Hid (r = if idle (wordsL c1) = true then linesF (ls.drop (k + 1)) (k + 1) ts else if (lineF ts (wordsL c1)).2 ≠ 0 then ([], k + 1, (lineF ts (wordsL c1)).2) else linesF (ls.drop (k + 1)) (k + 1) (lineF ts (wordsL c1)).1) := HR1.out.symm
      rw [← hwm] at HRX
      clear HR1 hwm
      rcases ws with _ | ⟨a, ws2⟩
      · have e1 : linesF (ls.drop (k + 1)) (k + 1) ts = r := (HRX.out.trans (if_pos rfl)).symm
        go_wp2_with fail
        go_roundg (N - (k + 1))
        case measure => omega
        case rel => exact ⟨_, k + 1, ts, xs, rv, ys, rfl, by go_num, by omega, HT2.out, HB2.out, e1, hl16, Nat.le_refl _⟩
      · obtain ⟨bb, o, rfl, hbl, hcell⟩ := HRW.out.cells (by simp)
        have q0 := hcell 0 a 0 (.string a) rfl rfl
        rw [show o + (0 * 1 + 0) = o by omega] at q0
        clear hcell
        have ha := hwn a (by simp)
        have ha0 : 0 < a.size := by rw [Lib.size_eq]; exact List.length_pos_iff.2 ha
        have ha0i : (0 : Int) < (a.size : Int) := by omega
        have hid : idle ((a :: ws2).map fun s => s.data.toList) = (a[0].toNat == 35) := by
          show (a.data.toList.head? == some 35) = _
          have e1 : a.data.toList.head? = some a[0] := by
            rw [List.head?_eq_getElem?, List.getElem?_eq_getElem (by rw [← Lib.size_eq]; exact ha0)]
            rfl
          rw [e1, Bool.eq_iff_iff]
          simp [← UInt8.toNat_inj]
        have hlen := line_len ts ((a :: ws2).map fun s => s.data.toList)
        have HAD := Lib.hid (rline_any w1.heap.size w2 _ _ ts xs rv ys (a :: ws2) HT2.out HRW.out HB2.out.size hl16 (fun x hx => Nat.le_trans (hwb x hx) (by decide)) (by simp))
        unfold RetTab at HAD
        rw [hid] at HRX
        generalize lineF ts ((a :: ws2).map fun s => s.data.toList) = lr at HAD HRX hlen
        have hnw : (1 : Nat) ≤ (a :: ws2).length := by simp
        clear hid ha hwb hwn HRW
        generalize (a :: ws2).length = nw at HAD hnw ⊢
        have hnwi : ((nw : Int) == 0) = false := beq_eq_false_iff_ne.2 (by omega)
        have hnwj : (0 : Int) < (nw : Int) := by omega
        by_cases h35 : a[0].toNat = 35
        · have t35 : (((a[0].toNat : Nat) : Int) == 35) = true := by rw [h35]; rfl
          have e1 : linesF (ls.drop (k + 1)) (k + 1) ts = r := (HRX.out.trans (if_pos (by rw [h35]; rfl))).symm
          clear h35 HAD HRX
          go_wp2_with fail
          go_roundg (N - (k + 1))
          case measure => omega
          case rel => exact ⟨_, k + 1, ts, xs, rv, ys, rfl, by go_num, by omega, HT2.out, HB2.out, e1, hl16, Nat.le_refl _⟩
        · have t35 : (((a[0].toNat : Nat) : Int) == 35) = false := beq_eq_false_iff_ne.2 (by omega)
          rw [beq_eq_false_iff_ne.2 h35, if_neg Bool.false_ne_true] at HRX
          clear h35
          obtain ⟨l1, x1⟩ := lr
          simp only at HAD HRX hlen
          by_cases hx : x1 = 0
          · have e1 : linesF (ls.drop (k + 1)) (k + 1) l1 = r := by rw [HRX.out, if_neg (not_not_intro hx)]
            have tx : (x1 != 0) = false := by simpa using hx
            clear HRX
            go_wp2_with (go_at_call 57; refine HAD.out.mono ?_; rintro e w3 ⟨v3, x3, rfl, hx3, ht3, hb3⟩; subst hx3)
            obtain ⟨xs3, rv3, ys3, HT3⟩ := ht3 hx
            go_roundg (N - (k + 1))
            case measure => omega
            case rel => exact ⟨v3, k + 1, l1, xs3, rv3, ys3, rfl, by go_num, by omega, HT3, HB2.out.trans hb3, e1, hlen hx hl16, Nat.le_refl _⟩
          · have e1 : r = ([], k + 1, x1) := by rw [HRX.out, if_pos hx]
            have tx : (x1 != 0) = true := bne_iff_ne.2 hx
            clear HRX
            go_wp2_with (go_at_call 57; refine HAD.out.mono ?_; rintro e w3 ⟨v3, x3, rfl, hx3, ht3, hb3⟩; subst hx3)
            go_ret3
            rw [HRR.out, e1]
            exact ⟨_, rfl, RdTb.nil, HB1.out.trans ((HB2.out.trans hb3).mono HB1.out.size)⟩
    · obtain rfl : k = N := by omega
      have hki : ¬ (k : Int) < (k : Int) := by omega
      have e0 : r = (ts, 0, 0) := by rw [← HR.out, List.drop_eq_nil_of_le (by omega)]; rfl
      go_wp2_with fail
      go_ret3
      rw [HRR.out, e0]
      exact ⟨_, rfl, HT.out.rd, HB1.out.trans (HB.out.mono HB1.out.size)⟩

theorem ld_bool {w : World} {b o : Nat} {x : Bool} (h : w.cell? ⟨b, o, none⟩ = some (.bool x)) : (Instr.loadAt 4 (.pointer (some ⟨b, o, none⟩))).run Tryd.prog w = .ok (.bool x) w := by
  go_simp
theorem ld_str {w : World} {b o : Nat} {x : ByteArray} (h : w.cell? ⟨b, o, none⟩ = some (.string x)) : (Instr.loadAt 9 (.pointer (some ⟨b, o, none⟩))).run Tryd.prog w = .ok (.string x) w := by
  go_simp
theorem ld_rules {w : World} {b o : Nat} {A : Option Addr} {n c : Nat} (h : w.cell? ⟨b, o, none⟩ = some (.slice A n c)) : (Instr.loadAt 31 (.pointer (some ⟨b, o, none⟩))).run Tryd.prog w = .ok (.slice A n c) w := by
  go_simp
/-- The bounds under which tables are compared. -/
def TbSmall (ts : List Tb) : Prop := ts.length ≤ 1000000 ∧ ∀ t ∈ ts, RuSmall t.rs

set_option maxRecDepth 100000 in
set_option maxHeartbeats 8000000 in
theorem sameRules_any (rs : List Ru) (va vb : Value) (w : World) (ha : RdRu w va rs) (hb : RdRu w vb rs) (hsm : RuSmall rs) :
    Calls Tryd.prog 41 #[va, vb] w (DecRet w true) := by
  obtain ⟨R, HRR⟩ : ∃ R, Hid (R = DecRet w true) := ⟨_, rfl⟩
  rw [← HRR.out]
  obtain ⟨hl, hal⟩ := hsm
  obtain ⟨xs, hx0, hxl, hx⟩ := ha
  obtain ⟨zs, hz0, hzl, hz⟩ := hb
  obtain ⟨A, c, rfl, hlc, _⟩ := hx0.shape
  obtain ⟨A2, c2, rfl, hlc2, _⟩ := hz0.shape
  have hzx : zs.length = xs.length := hzl.trans hxl.symm
  have hxa : xs.length ≤ rs.length := Nat.le_of_eq hxl
  have hxb : rs.length ≤ xs.length := Nat.le_of_eq hxl.symm
  have hza : zs.length ≤ rs.length := Nat.le_of_eq hzl
  have hzb : rs.length ≤ zs.length := Nat.le_of_eq hzl.symm
  have HX := Lib.hid hx0
  have HZ := Lib.hid hz0
  have HXR := Lib.hid hx
  have HZR := Lib.hid hz
  have hlc3 : xs.length ≤ c2 := by omega
  rw [hzx] at HZ ⊢
  clear hx0 hz0 hx hz hxl hzl hzx hlc2
  have tn0 : ((xs.length : Int) != (xs.length : Int)) = false := bne_self_eq_false _
  go_enter Tryd.func41, Tryd.ntmps41
  go_wp2_with fail
  obtain ⟨wo, HWO⟩ : ∃ wo, Hid (wo = w) := ⟨w, rfl⟩
  go_loopg [5, 13] xs.length (fun gk iv kv wr => ∃ k : Nat, kv = .int .i64 k ∧ k ≤ xs.length ∧ Hid (Below w.heap.size w wr) ∧ xs.length - k ≤ gk)
  case atStart => exact ⟨0, rfl, by omega, Below.refl _ _, by omega⟩
  case round =>
    clear HWO
    obtain ⟨k, rfl, hk, HB, hgk⟩ := hrel
    by_cases hkl : k < xs.length
    · have hki : (k : Int) < (xs.length : Int) := by omega
      have hk0 : (0 : Int) ≤ (k : Int) := by omega
      obtain ⟨b1, o1, rfl, hb1, hc1⟩ := HX.out.cells (by omega)
      obtain ⟨b2, o2, hA2, hb2, hc2⟩ := HZ.out.cells (by omega)
      subst hA2
      have hxk : xs[k]? = some xs[k] := List.getElem?_eq_getElem hkl
      have hzk : zs[k]? = some (zs[k]'(by omega)) := List.getElem?_eq_getElem (by omega)
      have hrk : rs[k]? = some (rs[k]'(by omega)) := List.getElem?_eq_getElem (by omega)
      have y0 := (HB.out.cell (p := ⟨b1, o1 + (k * 3 + 0), none⟩) hb1).trans (hc1 k _ 0 _ hxk rfl)
      have y1 := (HB.out.cell (p := ⟨b1, o1 + (k * 3 + 1), none⟩) hb1).trans (hc1 k _ 1 _ hxk rfl)
      have y2 := (HB.out.cell (p := ⟨b1, o1 + (k * 3 + 2), none⟩) hb1).trans (hc1 k _ 2 _ hxk rfl)
      have z0 := (HB.out.cell (p := ⟨b2, o2 + (k * 3 + 0), none⟩) hb2).trans (hc2 k _ 0 _ hzk rfl)
      have z1 := (HB.out.cell (p := ⟨b2, o2 + (k * 3 + 1), none⟩) hb2).trans (hc2 k _ 1 _ hzk rfl)
      have z2 := (HB.out.cell (p := ⟨b2, o2 + (k * 3 + 2), none⟩) hb2).trans (hc2 k _ 2 _ hzk rfl)
      rw [show o1 + (k * 3 + 0) = o1 + k * 3 by omega] at y0
      rw [show o1 + (k * 3 + 1) = o1 + k * 3 + 1 by omega] at y1
      rw [show o1 + (k * 3 + 2) = o1 + k * 3 + 2 by omega] at y2
      rw [show o2 + (k * 3 + 0) = o2 + k * 3 by omega] at z0
      rw [show o2 + (k * 3 + 1) = o2 + k * 3 + 1 by omega] at z1
      rw [show o2 + (k * 3 + 2) = o2 + k * 3 + 2 by omega] at z2
      obtain ⟨hbr, hbf, haf⟩ := HXR.out k _ _ hxk hrk
      obtain ⟨hbr2, hbf2, haf2⟩ := HZR.out k _ _ hzk hrk
      have hrl := hal _ (List.getElem_mem (show k < rs.length by omega))
      have HU1 := Lib.hid (hbf.below HB.out (Nat.le_refl _))
      have HT1 := Lib.hid (haf.below HB.out (Nat.le_refl _))
      have HU2 := Lib.hid (hbf2.below HB.out (Nat.le_refl _))
      have HT2 := Lib.hid (haf2.below HB.out (Nat.le_refl _))
      clear hc1 hc2 hxk hzk hrk hbf haf hbf2 haf2
      generalize xs[k] = y at y0 y1 y2 HU1 HT1 hbr
      generalize zs[k]'(by omega) = z at z0 z1 z2 HU2 HT2 hbr2
      generalize rs[k]'(by omega) = r at HU1 HT1 HU2 HT2 hrl hbr hbr2
      obtain ⟨bv, ⟨uA, un, uc⟩, ⟨tA, tn, tc⟩⟩ := y
      obtain ⟨bv2, ⟨u2A, un2, u2c⟩, ⟨t2A, tn2, t2c⟩⟩ := z
      obtain rfl : bv = bv2 := hbr.trans hbr2.symm
      clear hbr hbr2
      change wr.cell? _ = some (.bool bv) at y0
      change wr.cell? _ = some (.bool bv) at z0
      change wr.cell? _ = some (.slice uA un uc) at y1
      change wr.cell? _ = some (.slice tA tn tc) at y2
      change wr.cell? _ = some (.slice u2A un2 u2c) at z1
      change wr.cell? _ = some (.slice t2A tn2 t2c) at z2
      change Hid (RdE atC 34 wr (.slice uA un uc) r.bf) at HU1
      change Hid (RdE atC 34 wr (.slice tA tn tc) r.af) at HT1
      change Hid (RdE atC 34 wr (.slice u2A un2 u2c) r.bf) at HU2
      change Hid (RdE atC 34 wr (.slice t2A tn2 t2c) r.af) at HT2
      have hz := HB.out.size
      have l1 : b1 < wr.heap.size := Nat.lt_of_lt_of_le hb1 hz
      have l2 : b2 < wr.heap.size := Nat.lt_of_lt_of_le hb2 hz
      have HS1 := Lib.hid (fun (w' : World) (h : Below wr.heap.size wr w') => same_any r.bf (.slice uA un uc) (.slice u2A un2 u2c) w' (HU1.out.below h (Nat.le_refl _)) (HU2.out.below h (Nat.le_refl _)) (by omega))
      have HS2 := Lib.hid (fun (w' : World) (h : Below wr.heap.size wr w') => same_any r.af (.slice tA tn tc) (.slice t2A tn2 t2c) w' (HT1.out.below h (Nat.le_refl _)) (HT2.out.below h (Nat.le_refl _)) (by omega))
      have tb : (bv != bv) = false := bne_self_eq_false bv
      clear HU1 HT1 HU2 HT2
      go_wp2_with fail
      refine wp_region_at 39 #[false, false, false, false, false, false, false, false, false, false, false, false, false, false, false, false, false, false, false, false, false, false, false, false, false, false, false, false, false, false, false, false, false, false, false, false, false, false, false] rfl rfl (by kernel_rfl) ?_
      refine wpAny_at (i := 0) (v := .slice (some ⟨b1, o1, none⟩) xs.length c) (some 16) rfl rfl (by kernel_rfl) (by kernel_rfl) (by kernel_rfl) (fun _ _ _ h => h) (by kernel_rfl) (fun _ => ex_move _ _ rfl (by kernel_rfl)) ?_
      simp only [Act.put, List.setIfInBounds_toArray, List.set_cons_zero, List.set_cons_succ]
      refine wpAny_at (i := 1) (v := .int .i64 (k : Int)) (some 17) rfl rfl (by kernel_rfl) (by kernel_rfl) (by kernel_rfl) (fun _ _ _ h => h) (by kernel_rfl) (fun _ => ex_move _ _ rfl (by kernel_rfl)) ?_
      simp only [Act.put, List.setIfInBounds_toArray, List.set_cons_zero, List.set_cons_succ]
      refine wpAny_at (i := 2) (v := .pointer (some ⟨b1, o1 + k * 3, none⟩)) (some 18) rfl rfl (by kernel_rfl) (by kernel_rfl) (by kernel_rfl) (fun _ _ _ h => h) (by kernel_rfl) (fun _ => ex_indexAddr 31 _ _ (.slice (some ⟨b1, o1, none⟩) xs.length c) (.int .i64 (k : Int)) _ rfl (by kernel_rfl) (by kernel_rfl) (by go_simp)) ?_
      simp only [Act.put, List.setIfInBounds_toArray, List.set_cons_zero, List.set_cons_succ]
      refine wpAny_at (i := 3) (v := .pointer (some ⟨b1, o1 + k * 3, none⟩)) (some 19) rfl rfl (by kernel_rfl) (by kernel_rfl) (by kernel_rfl) (fun _ _ _ h => h) (by kernel_rfl) (fun _ => ex_fieldAddr 30 _ 0 (.pointer (some ⟨b1, o1 + k * 3, none⟩)) _ rfl (by kernel_rfl) (by go_simp)) ?_
      simp only [Act.put, List.setIfInBounds_toArray, List.set_cons_zero, List.set_cons_succ]
      refine wpAny_at (i := 5) (v := .slice (some ⟨b2, o2, none⟩) xs.length c2) (some 21) rfl rfl (by kernel_rfl) (by kernel_rfl) (by kernel_rfl) (fun _ _ _ h => h) (by kernel_rfl) (fun _ => ex_move _ _ rfl (by kernel_rfl)) ?_
      simp only [Act.put, List.setIfInBounds_toArray, List.set_cons_zero, List.set_cons_succ]
      refine wpAny_at (i := 6) (v := .int .i64 (k : Int)) (some 22) rfl rfl (by kernel_rfl) (by kernel_rfl) (by kernel_rfl) (fun _ _ _ h => h) (by kernel_rfl) (fun _ => ex_move _ _ rfl (by kernel_rfl)) ?_
      simp only [Act.put, List.setIfInBounds_toArray, List.set_cons_zero, List.set_cons_succ]
      refine wpAny_at (i := 7) (v := .pointer (some ⟨b2, o2 + k * 3, none⟩)) (some 23) rfl rfl (by kernel_rfl) (by kernel_rfl) (by kernel_rfl) (fun _ _ _ h => h) (by kernel_rfl) (fun _ => ex_indexAddr 31 _ _ (.slice (some ⟨b2, o2, none⟩) xs.length c2) (.int .i64 (k : Int)) _ rfl (by kernel_rfl) (by kernel_rfl) (by go_simp)) ?_
      simp only [Act.put, List.setIfInBounds_toArray, List.set_cons_zero, List.set_cons_succ]
      refine wpAny_at (i := 8) (v := .pointer (some ⟨b2, o2 + k * 3, none⟩)) (some 24) rfl rfl (by kernel_rfl) (by kernel_rfl) (by kernel_rfl) (fun _ _ _ h => h) (by kernel_rfl) (fun _ => ex_fieldAddr 30 _ 0 (.pointer (some ⟨b2, o2 + k * 3, none⟩)) _ rfl (by kernel_rfl) (by go_simp)) ?_
      simp only [Act.put, List.setIfInBounds_toArray, List.set_cons_zero, List.set_cons_succ]
      refine wpAny_both 4 9 20 25 (.bool bv) (.bool bv) (by kernel_rfl) (by kernel_rfl) (by kernel_rfl) rfl rfl rfl rfl (by decide) (by decide) (by kernel_rfl) (by kernel_rfl) (by kernel_rfl) (by kernel_rfl) (ex_load 4 _ (.pointer (some ⟨b1, o1 + k * 3, none⟩)) _ rfl (by kernel_rfl) (ld_bool (w := wr.drew) y0)) (ex_load 4 _ (.pointer (some ⟨b2, o2 + k * 3, none⟩)) _ rfl (by kernel_rfl) (ld_bool (w := wr.drew) z0)) (ex_load 4 _ (.pointer (some ⟨b1, o1 + k * 3, none⟩)) _ rfl (by kernel_rfl) (ld_bool (w := wr.drew) y0)) (ex_load 4 _ (.pointer (some ⟨b2, o2 + k * 3, none⟩)) _ rfl (by kernel_rfl) (ld_bool (w := wr.drew) z0)) rfl ?_
      simp only [Act.put, List.setIfInBounds_toArray, List.set_cons_zero, List.set_cons_succ]
      refine wpAny_at (i := 10) (v := .bool false) (some 26) rfl rfl (by kernel_rfl) (by kernel_rfl) (by kernel_rfl) (fun _ _ _ h => h) (by kernel_rfl) (fun _ => ex_binOp .neq 4 4 _ _ (.bool bv) (.bool bv) _ rfl (by kernel_rfl) (by kernel_rfl) (by go_simp)) ?_
      simp only [Act.put, List.setIfInBounds_toArray, List.set_cons_zero, List.set_cons_succ]
      refine wpAny_at (i := 11) (v := .bool false) (some 27) rfl rfl (by kernel_rfl) (by kernel_rfl) (by kernel_rfl) (fun _ _ _ h => h) (by kernel_rfl) (fun _ => ex_move _ _ rfl (by kernel_rfl)) ?_
      simp only [Act.put, List.setIfInBounds_toArray, List.set_cons_zero, List.set_cons_succ]
      refine wpAny_at (i := 12) (v := .slice (some ⟨b1, o1, none⟩) xs.length c) (some 28) rfl rfl (by kernel_rfl) (by kernel_rfl) (by kernel_rfl) (fun _ _ _ h => h) (by kernel_rfl) (fun _ => ex_move _ _ rfl (by kernel_rfl)) ?_
      simp only [Act.put, List.setIfInBounds_toArray, List.set_cons_zero, List.set_cons_succ]
      refine wpAny_at (i := 13) (v := .int .i64 (k : Int)) (some 29) rfl rfl (by kernel_rfl) (by kernel_rfl) (by kernel_rfl) (fun _ _ _ h => h) (by kernel_rfl) (fun _ => ex_move _ _ rfl (by kernel_rfl)) ?_
      simp only [Act.put, List.setIfInBounds_toArray, List.set_cons_zero, List.set_cons_succ]
      refine wpAny_at (i := 14) (v := .pointer (some ⟨b1, o1 + k * 3, none⟩)) (some 30) rfl rfl (by kernel_rfl) (by kernel_rfl) (by kernel_rfl) (fun _ _ _ h => h) (by kernel_rfl) (fun _ => ex_indexAddr 31 _ _ (.slice (some ⟨b1, o1, none⟩) xs.length c) (.int .i64 (k : Int)) _ rfl (by kernel_rfl) (by kernel_rfl) (by go_simp)) ?_
      simp only [Act.put, List.setIfInBounds_toArray, List.set_cons_zero, List.set_cons_succ]
      refine wpAny_at (i := 15) (v := .pointer (some ⟨b1, o1 + k * 3 + 1, none⟩)) (some 31) rfl rfl (by kernel_rfl) (by kernel_rfl) (by kernel_rfl) (fun _ _ _ h => h) (by kernel_rfl) (fun _ => ex_fieldAddr 30 _ 1 (.pointer (some ⟨b1, o1 + k * 3, none⟩)) _ rfl (by kernel_rfl) (by go_simp)) ?_
      simp only [Act.put, List.setIfInBounds_toArray, List.set_cons_zero, List.set_cons_succ]
      refine wpAny_at (i := 17) (v := .slice (some ⟨b2, o2, none⟩) xs.length c2) (some 33) rfl rfl (by kernel_rfl) (by kernel_rfl) (by kernel_rfl) (fun _ _ _ h => h) (by kernel_rfl) (fun _ => ex_move _ _ rfl (by kernel_rfl)) ?_
      simp only [Act.put, List.setIfInBounds_toArray, List.set_cons_zero, List.set_cons_succ]
      refine wpAny_at (i := 18) (v := .int .i64 (k : Int)) (some 34) rfl rfl (by kernel_rfl) (by kernel_rfl) (by kernel_rfl) (fun _ _ _ h => h) (by kernel_rfl) (fun _ => ex_move _ _ rfl (by kernel_rfl)) ?_
      simp only [Act.put, List.setIfInBounds_toArray, List.set_cons_zero, List.set_cons_succ]
      refine wpAny_at (i := 19) (v := .pointer (some ⟨b2, o2 + k * 3, none⟩)) (some 35) rfl rfl (by kernel_rfl) (by kernel_rfl) (by kernel_rfl) (fun _ _ _ h => h) (by kernel_rfl) (fun _ => ex_indexAddr 31 _ _ (.slice (some ⟨b2, o2, none⟩) xs.length c2) (.int .i64 (k : Int)) _ rfl (by kernel_rfl) (by kernel_rfl) (by go_simp)) ?_
      simp only [Act.put, List.setIfInBounds_toArray, List.set_cons_zero, List.set_cons_succ]
      refine wpAny_at (i := 20) (v := .pointer (some ⟨b2, o2 + k * 3 + 1, none⟩)) (some 36) rfl rfl (by kernel_rfl) (by kernel_rfl) (by kernel_rfl) (fun _ _ _ h => h) (by kernel_rfl) (fun _ => ex_fieldAddr 30 _ 1 (.pointer (some ⟨b2, o2 + k * 3, none⟩)) _ rfl (by kernel_rfl) (by go_simp)) ?_
      simp only [Act.put, List.setIfInBounds_toArray, List.set_cons_zero, List.set_cons_succ]
      refine wpAny_both 16 21 32 37 (.slice uA un uc) (.slice u2A un2 u2c) (by kernel_rfl) (by kernel_rfl) (by kernel_rfl) rfl rfl rfl rfl (by decide) (by decide) (by kernel_rfl) (by kernel_rfl) (by kernel_rfl) (by kernel_rfl) (ex_load 28 _ (.pointer (some ⟨b1, o1 + k * 3 + 1, none⟩)) _ rfl (by kernel_rfl) (ld_slice (w := wr.drew) y1)) (ex_load 28 _ (.pointer (some ⟨b2, o2 + k * 3 + 1, none⟩)) _ rfl (by kernel_rfl) (ld_slice (w := wr.drew) z1)) (ex_load 28 _ (.pointer (some ⟨b1, o1 + k * 3 + 1, none⟩)) _ rfl (by kernel_rfl) (ld_slice (w := wr.drew) y1)) (ex_load 28 _ (.pointer (some ⟨b2, o2 + k * 3 + 1, none⟩)) _ rfl (by kernel_rfl) (ld_slice (w := wr.drew) z1)) rfl ?_
      simp only [Act.put, List.setIfInBounds_toArray, List.set_cons_zero, List.set_cons_succ]
      refine wpAny_call 22 (some 38) (by kernel_rfl) rfl rfl (by kernel_rfl) 75 (#[.slice uA un uc, .slice u2A un2 u2c]) (by go_simp) (HS1.out _ (below_drewN (Below.refl _ wr) 1)) ?_
      rintro e wa ⟨rfl, hba⟩
      refine ⟨_, rfl, ?_⟩
      have hx5 := (below_drewN (Below.refl wr.heap.size wr) 1).trans hba
      simp only [Act.put, List.setIfInBounds_toArray, List.set_cons_zero, List.set_cons_succ]
      refine wpAny_at (i := 23) (v := .bool false) (some 39) rfl rfl (by kernel_rfl) (by kernel_rfl) (by kernel_rfl) (fun _ _ _ h => h) (by kernel_rfl) (fun _ => ex_unOp .not 4 _ (.bool true) _ rfl (by kernel_rfl) (by go_simp)) ?_
      simp only [Act.put, List.setIfInBounds_toArray, List.set_cons_zero, List.set_cons_succ]
      refine wpAny_at (i := 24) (v := .bool false) (some 40) rfl rfl (by kernel_rfl) (by kernel_rfl) (by kernel_rfl) (fun _ _ _ h => h) (by kernel_rfl) (fun _ => ex_pick _ _ _ false (.bool true) (.bool false) rfl (by kernel_rfl) (by kernel_rfl) (by kernel_rfl)) ?_
      simp only [Act.put, List.setIfInBounds_toArray, List.set_cons_zero, List.set_cons_succ]
      refine wpAny_at (i := 25) (v := .bool false) (some 41) rfl rfl (by kernel_rfl) (by kernel_rfl) (by kernel_rfl) (fun _ _ _ h => h) (by kernel_rfl) (fun _ => ex_move _ _ rfl (by kernel_rfl)) ?_
      simp only [Act.put, List.setIfInBounds_toArray, List.set_cons_zero, List.set_cons_succ]
      refine wpAny_at (i := 26) (v := .slice (some ⟨b1, o1, none⟩) xs.length c) (some 42) rfl rfl (by kernel_rfl) (by kernel_rfl) (by kernel_rfl) (fun _ _ _ h => h) (by kernel_rfl) (fun _ => ex_move _ _ rfl (by kernel_rfl)) ?_
      simp only [Act.put, List.setIfInBounds_toArray, List.set_cons_zero, List.set_cons_succ]
      refine wpAny_at (i := 27) (v := .int .i64 (k : Int)) (some 43) rfl rfl (by kernel_rfl) (by kernel_rfl) (by kernel_rfl) (fun _ _ _ h => h) (by kernel_rfl) (fun _ => ex_move _ _ rfl (by kernel_rfl)) ?_
      simp only [Act.put, List.setIfInBounds_toArray, List.set_cons_zero, List.set_cons_succ]
      refine wpAny_at (i := 28) (v := .pointer (some ⟨b1, o1 + k * 3, none⟩)) (some 44) rfl rfl (by kernel_rfl) (by kernel_rfl) (by kernel_rfl) (fun _ _ _ h => h) (by kernel_rfl) (fun _ => ex_indexAddr 31 _ _ (.slice (some ⟨b1, o1, none⟩) xs.length c) (.int .i64 (k : Int)) _ rfl (by kernel_rfl) (by kernel_rfl) (by go_simp)) ?_
      simp only [Act.put, List.setIfInBounds_toArray, List.set_cons_zero, List.set_cons_succ]
      refine wpAny_at (i := 29) (v := .pointer (some ⟨b1, o1 + k * 3 + 2, none⟩)) (some 45) rfl rfl (by kernel_rfl) (by kernel_rfl) (by kernel_rfl) (fun _ _ _ h => h) (by kernel_rfl) (fun _ => ex_fieldAddr 30 _ 2 (.pointer (some ⟨b1, o1 + k * 3, none⟩)) _ rfl (by kernel_rfl) (by go_simp)) ?_
      simp only [Act.put, List.setIfInBounds_toArray, List.set_cons_zero, List.set_cons_succ]
      refine wpAny_at (i := 31) (v := .slice (some ⟨b2, o2, none⟩) xs.length c2) (some 47) rfl rfl (by kernel_rfl) (by kernel_rfl) (by kernel_rfl) (fun _ _ _ h => h) (by kernel_rfl) (fun _ => ex_move _ _ rfl (by kernel_rfl)) ?_
      simp only [Act.put, List.setIfInBounds_toArray, List.set_cons_zero, List.set_cons_succ]
      refine wpAny_at (i := 32) (v := .int .i64 (k : Int)) (some 48) rfl rfl (by kernel_rfl) (by kernel_rfl) (by kernel_rfl) (fun _ _ _ h => h) (by kernel_rfl) (fun _ => ex_move _ _ rfl (by kernel_rfl)) ?_
      simp only [Act.put, List.setIfInBounds_toArray, List.set_cons_zero, List.set_cons_succ]
      refine wpAny_at (i := 33) (v := .pointer (some ⟨b2, o2 + k * 3, none⟩)) (some 49) rfl rfl (by kernel_rfl) (by kernel_rfl) (by kernel_rfl) (fun _ _ _ h => h) (by kernel_rfl) (fun _ => ex_indexAddr 31 _ _ (.slice (some ⟨b2, o2, none⟩) xs.length c2) (.int .i64 (k : Int)) _ rfl (by kernel_rfl) (by kernel_rfl) (by go_simp)) ?_
      simp only [Act.put, List.setIfInBounds_toArray, List.set_cons_zero, List.set_cons_succ]
      refine wpAny_at (i := 34) (v := .pointer (some ⟨b2, o2 + k * 3 + 2, none⟩)) (some 50) rfl rfl (by kernel_rfl) (by kernel_rfl) (by kernel_rfl) (fun _ _ _ h => h) (by kernel_rfl) (fun _ => ex_fieldAddr 30 _ 2 (.pointer (some ⟨b2, o2 + k * 3, none⟩)) _ rfl (by kernel_rfl) (by go_simp)) ?_
      simp only [Act.put, List.setIfInBounds_toArray, List.set_cons_zero, List.set_cons_succ]
      refine wpAny_both 30 35 46 51 (.slice tA tn tc) (.slice t2A tn2 t2c) (by kernel_rfl) (by kernel_rfl) (by kernel_rfl) rfl rfl rfl rfl (by decide) (by decide) (by kernel_rfl) (by kernel_rfl) (by kernel_rfl) (by kernel_rfl) (ex_load 28 _ (.pointer (some ⟨b1, o1 + k * 3 + 2, none⟩)) _ rfl (by kernel_rfl) (ld_slice ((hx5.cell (p := ⟨b1, o1 + k * 3 + 2, none⟩) l1).trans y2))) (ex_load 28 _ (.pointer (some ⟨b2, o2 + k * 3 + 2, none⟩)) _ rfl (by kernel_rfl) (ld_slice ((hx5.cell (p := ⟨b2, o2 + k * 3 + 2, none⟩) l2).trans z2))) (ex_load 28 _ (.pointer (some ⟨b1, o1 + k * 3 + 2, none⟩)) _ rfl (by kernel_rfl) (ld_slice ((hx5.cell (p := ⟨b1, o1 + k * 3 + 2, none⟩) l1).trans y2))) (ex_load 28 _ (.pointer (some ⟨b2, o2 + k * 3 + 2, none⟩)) _ rfl (by kernel_rfl) (ld_slice ((hx5.cell (p := ⟨b2, o2 + k * 3 + 2, none⟩) l2).trans z2))) rfl ?_
      simp only [Act.put, List.setIfInBounds_toArray, List.set_cons_zero, List.set_cons_succ]
      refine wpAny_call 36 (some 52) (by kernel_rfl) rfl rfl (by kernel_rfl) 75 (#[.slice tA tn tc, .slice t2A tn2 t2c]) (by go_simp) (HS2.out _ hx5) ?_
      rintro e wb ⟨rfl, hbb⟩
      refine ⟨_, rfl, ?_⟩
      simp only [Act.put, List.setIfInBounds_toArray, List.set_cons_zero, List.set_cons_succ]
      refine wpAny_at (i := 37) (v := .bool false) (some 53) rfl rfl (by kernel_rfl) (by kernel_rfl) (by kernel_rfl) (fun _ _ _ h => h) (by kernel_rfl) (fun _ => ex_unOp .not 4 _ (.bool true) _ rfl (by kernel_rfl) (by go_simp)) ?_
      simp only [Act.put, List.setIfInBounds_toArray, List.set_cons_zero, List.set_cons_succ]
      refine wpAny_at (i := 38) (v := .bool false) (some 54) rfl rfl (by kernel_rfl) (by kernel_rfl) (by kernel_rfl) (fun _ _ _ h => h) (by kernel_rfl) (fun _ => ex_pick _ _ _ false (.bool true) (.bool false) rfl (by kernel_rfl) (by kernel_rfl) (by kernel_rfl)) ?_
      simp only [Act.put, List.setIfInBounds_toArray, List.set_cons_zero, List.set_cons_succ]
      refine wpAny_done (by kernel_rfl) ?_ _
      have HB5 := Lib.hid (HB.out.trans ((hx5.trans (hbb.mono hx5.size)).mono hz))
      clear hx5 hba hbb
      go_wp2_with fail
      go_roundg (xs.length - (k + 1))
      case measure => omega
      case rel => exact ⟨k + 1, by go_num, by omega, HB5.out, Nat.le_refl _⟩
    · obtain rfl : k = xs.length := by omega
      have hki : ¬ (xs.length : Int) < (xs.length : Int) := by omega
      go_wp2_with fail
      rw [HRR.out]
      exact ⟨rfl, HB.out⟩

set_option maxRecDepth 100000 in
set_option maxHeartbeats 8000000 in
theorem sameTables_any (ts : List Tb) (va vb : Value) (w : World) (ha : RdTb w va ts) (hb : RdTb w vb ts) (hsm : TbSmall ts) :
    Calls Tryd.prog 22 #[va, vb] w (DecRet w true) := by
  obtain ⟨R, HRR⟩ : ∃ R, Hid (R = DecRet w true) := ⟨_, rfl⟩
  rw [← HRR.out]
  obtain ⟨hl, hal⟩ := hsm
  obtain ⟨xs, hx0, hxl, hx⟩ := ha
  obtain ⟨zs, hz0, hzl, hz⟩ := hb
  obtain ⟨A, c, rfl, hlc, _⟩ := hx0.shape
  obtain ⟨A2, c2, rfl, hlc2, _⟩ := hz0.shape
  have hzx : zs.length = xs.length := hzl.trans hxl.symm
  have hxa : xs.length ≤ ts.length := Nat.le_of_eq hxl
  have hxb : ts.length ≤ xs.length := Nat.le_of_eq hxl.symm
  have hza : zs.length ≤ ts.length := Nat.le_of_eq hzl
  have hzb : ts.length ≤ zs.length := Nat.le_of_eq hzl.symm
  have HX := Lib.hid hx0
  have HZ := Lib.hid hz0
  have HXR := Lib.hid hx
  have HZR := Lib.hid hz
  have hlc3 : xs.length ≤ c2 := by omega
  rw [hzx] at HZ ⊢
  clear hx0 hz0 hx hz hxl hzl hzx hlc2
  have tn0 : ((xs.length : Int) != (xs.length : Int)) = false := bne_self_eq_false _
  go_enter Tryd.func22, Tryd.ntmps22
  go_wp2_with fail
  obtain ⟨wo, HWO⟩ : ∃ wo, Hid (wo = w) := ⟨w, rfl⟩
  go_loopg [5, 13] xs.length (fun gk iv kv wr => ∃ k : Nat, kv = .int .i64 k ∧ k ≤ xs.length ∧ Hid (Below w.heap.size w wr) ∧ xs.length - k ≤ gk)
  case atStart => exact ⟨0, rfl, by omega, Below.refl _ _, by omega⟩
  case round =>
    clear HWO
    obtain ⟨k, rfl, hk, HB, hgk⟩ := hrel
    by_cases hkl : k < xs.length
    · have hki : (k : Int) < (xs.length : Int) := by omega
      have hk0 : (0 : Int) ≤ (k : Int) := by omega
      obtain ⟨b1, o1, rfl, hb1, hc1⟩ := HX.out.cells (by omega)
      obtain ⟨b2, o2, hA2, hb2, hc2⟩ := HZ.out.cells (by omega)
      subst hA2
      have hxk : xs[k]? = some xs[k] := List.getElem?_eq_getElem hkl
      have hzk : zs[k]? = some (zs[k]'(by omega)) := List.getElem?_eq_getElem (by omega)
      have hrk : ts[k]? = some (ts[k]'(by omega)) := List.getElem?_eq_getElem (by omega)
      have y0 := (HB.out.cell (p := ⟨b1, o1 + (k * 3 + 0), none⟩) hb1).trans (hc1 k _ 0 _ hxk rfl)
      have y1 := (HB.out.cell (p := ⟨b1, o1 + (k * 3 + 1), none⟩) hb1).trans (hc1 k _ 1 _ hxk rfl)
      have y2 := (HB.out.cell (p := ⟨b1, o1 + (k * 3 + 2), none⟩) hb1).trans (hc1 k _ 2 _ hxk rfl)
      have z0 := (HB.out.cell (p := ⟨b2, o2 + (k * 3 + 0), none⟩) hb2).trans (hc2 k _ 0 _ hzk rfl)
      have z1 := (HB.out.cell (p := ⟨b2, o2 + (k * 3 + 1), none⟩) hb2).trans (hc2 k _ 1 _ hzk rfl)
      have z2 := (HB.out.cell (p := ⟨b2, o2 + (k * 3 + 2), none⟩) hb2).trans (hc2 k _ 2 _ hzk rfl)
      rw [show o1 + (k * 3 + 0) = o1 + k * 3 by omega] at y0
      rw [show o1 + (k * 3 + 1) = o1 + k * 3 + 1 by omega] at y1
      rw [show o1 + (k * 3 + 2) = o1 + k * 3 + 2 by omega] at y2
      rw [show o2 + (k * 3 + 0) = o2 + k * 3 by omega] at z0
      rw [show o2 + (k * 3 + 1) = o2 + k * 3 + 1 by omega] at z1
      rw [show o2 + (k * 3 + 2) = o2 + k * 3 + 2 by omega] at z2
      obtain ⟨hnm, hpa, hru⟩ := HXR.out k _ _ hxk hrk
      obtain ⟨hnm2, hpa2, hru2⟩ := HZR.out k _ _ hzk hrk
      have hrl := hal _ (List.getElem_mem (show k < ts.length by omega))
      have HU1 := Lib.hid (hru.below HB.out (Nat.le_refl _))
      have HU2 := Lib.hid (hru2.below HB.out (Nat.le_refl _))
      clear hc1 hc2 hxk hzk hrk hru hru2
      generalize xs[k] = y at y0 y1 y2 HU1 hnm hpa
      generalize zs[k]'(by omega) = z at z0 z1 z2 HU2 hnm2 hpa2
      generalize ts[k]'(by omega) = t at HU1 HU2 hrl hnm hpa hnm2 hpa2
      obtain ⟨nm, pa, ⟨rA, rn, rc⟩⟩ := y
      obtain ⟨nm2, pa2, ⟨r2A, rn2, r2c⟩⟩ := z
      obtain rfl : nm = nm2 := hnm.trans hnm2.symm
      obtain rfl : pa = pa2 := hpa.trans hpa2.symm
      clear hnm hpa hnm2 hpa2
      change wr.cell? _ = some (.string nm) at y0
      change wr.cell? _ = some (.string nm) at z0
      change wr.cell? _ = some (.string pa) at y1
      change wr.cell? _ = some (.string pa) at z1
      change wr.cell? _ = some (.slice rA rn rc) at y2
      change wr.cell? _ = some (.slice r2A rn2 r2c) at z2
      change Hid (RdRu wr (.slice rA rn rc) t.rs) at HU1
      change Hid (RdRu wr (.slice r2A rn2 r2c) t.rs) at HU2
      have hz := HB.out.size
      have l1 : b1 < wr.heap.size := Nat.lt_of_lt_of_le hb1 hz
      have l2 : b2 < wr.heap.size := Nat.lt_of_lt_of_le hb2 hz
      have HS1 := Lib.hid (fun (w' : World) (h : Below wr.heap.size wr w') => sameRules_any t.rs (.slice rA rn rc) (.slice r2A rn2 r2c) w' (HU1.out.below h (Nat.le_refl _)) (HU2.out.below h (Nat.le_refl _)) hrl)
      have tb : (nm.toList != nm.toList) = false := bne_self_eq_false _
      have tp : (pa.toList != pa.toList) = false := bne_self_eq_false _
      clear HU1 HU2
      go_wp2_with fail
      refine wp_region_at 38 #[false, false, false, false, false, false, false, false, false, false, false, false, false, false, false, false, false, false, false, false, false, false, false, false, false, false, false, false, false, false, false, false, false, false, false, false, false, false] rfl rfl (by kernel_rfl) ?_
      refine wpAny_at (i := 0) (v := .slice (some ⟨b1, o1, none⟩) xs.length c) (some 16) rfl rfl (by kernel_rfl) (by kernel_rfl) (by kernel_rfl) (fun _ _ _ h => h) (by kernel_rfl) (fun _ => ex_move _ _ rfl (by kernel_rfl)) ?_
      simp only [Act.put, List.setIfInBounds_toArray, List.set_cons_zero, List.set_cons_succ]
      refine wpAny_at (i := 1) (v := .int .i64 (k : Int)) (some 17) rfl rfl (by kernel_rfl) (by kernel_rfl) (by kernel_rfl) (fun _ _ _ h => h) (by kernel_rfl) (fun _ => ex_move _ _ rfl (by kernel_rfl)) ?_
      simp only [Act.put, List.setIfInBounds_toArray, List.set_cons_zero, List.set_cons_succ]
      refine wpAny_at (i := 2) (v := .pointer (some ⟨b1, o1 + k * 3, none⟩)) (some 18) rfl rfl (by kernel_rfl) (by kernel_rfl) (by kernel_rfl) (fun _ _ _ h => h) (by kernel_rfl) (fun _ => ex_indexAddr 39 _ _ (.slice (some ⟨b1, o1, none⟩) xs.length c) (.int .i64 (k : Int)) _ rfl (by kernel_rfl) (by kernel_rfl) (by go_simp)) ?_
      simp only [Act.put, List.setIfInBounds_toArray, List.set_cons_zero, List.set_cons_succ]
      refine wpAny_at (i := 3) (v := .pointer (some ⟨b1, o1 + k * 3, none⟩)) (some 19) rfl rfl (by kernel_rfl) (by kernel_rfl) (by kernel_rfl) (fun _ _ _ h => h) (by kernel_rfl) (fun _ => ex_fieldAddr 46 _ 0 (.pointer (some ⟨b1, o1 + k * 3, none⟩)) _ rfl (by kernel_rfl) (by go_simp)) ?_
      simp only [Act.put, List.setIfInBounds_toArray, List.set_cons_zero, List.set_cons_succ]
      refine wpAny_at (i := 5) (v := .slice (some ⟨b2, o2, none⟩) xs.length c2) (some 21) rfl rfl (by kernel_rfl) (by kernel_rfl) (by kernel_rfl) (fun _ _ _ h => h) (by kernel_rfl) (fun _ => ex_move _ _ rfl (by kernel_rfl)) ?_
      simp only [Act.put, List.setIfInBounds_toArray, List.set_cons_zero, List.set_cons_succ]
      refine wpAny_at (i := 6) (v := .int .i64 (k : Int)) (some 22) rfl rfl (by kernel_rfl) (by kernel_rfl) (by kernel_rfl) (fun _ _ _ h => h) (by kernel_rfl) (fun _ => ex_move _ _ rfl (by kernel_rfl)) ?_
      simp only [Act.put, List.setIfInBounds_toArray, List.set_cons_zero, List.set_cons_succ]
      refine wpAny_at (i := 7) (v := .pointer (some ⟨b2, o2 + k * 3, none⟩)) (some 23) rfl rfl (by kernel_rfl) (by kernel_rfl) (by kernel_rfl) (fun _ _ _ h => h) (by kernel_rfl) (fun _ => ex_indexAddr 39 _ _ (.slice (some ⟨b2, o2, none⟩) xs.length c2) (.int .i64 (k : Int)) _ rfl (by kernel_rfl) (by kernel_rfl) (by go_simp)) ?_
      simp only [Act.put, List.setIfInBounds_toArray, List.set_cons_zero, List.set_cons_succ]
      refine wpAny_at (i := 8) (v := .pointer (some ⟨b2, o2 + k * 3, none⟩)) (some 24) rfl rfl (by kernel_rfl) (by kernel_rfl) (by kernel_rfl) (fun _ _ _ h => h) (by kernel_rfl) (fun _ => ex_fieldAddr 46 _ 0 (.pointer (some ⟨b2, o2 + k * 3, none⟩)) _ rfl (by kernel_rfl) (by go_simp)) ?_
      simp only [Act.put, List.setIfInBounds_toArray, List.set_cons_zero, List.set_cons_succ]
      refine wpAny_both 4 9 20 25 (.string nm) (.string nm) (by kernel_rfl) (by kernel_rfl) (by kernel_rfl) rfl rfl rfl rfl (by decide) (by decide) (by kernel_rfl) (by kernel_rfl) (by kernel_rfl) (by kernel_rfl) (ex_load 9 _ (.pointer (some ⟨b1, o1 + k * 3, none⟩)) _ rfl (by kernel_rfl) (ld_str (w := wr.drew) y0)) (ex_load 9 _ (.pointer (some ⟨b2, o2 + k * 3, none⟩)) _ rfl (by kernel_rfl) (ld_str (w := wr.drew) z0)) (ex_load 9 _ (.pointer (some ⟨b1, o1 + k * 3, none⟩)) _ rfl (by kernel_rfl) (ld_str (w := wr.drew) y0)) (ex_load 9 _ (.pointer (some ⟨b2, o2 + k * 3, none⟩)) _ rfl (by kernel_rfl) (ld_str (w := wr.drew) z0)) rfl ?_
      simp only [Act.put, List.setIfInBounds_toArray, List.set_cons_zero, List.set_cons_succ]
      refine wpAny_at (i := 10) (v := .bool false) (some 26) rfl rfl (by kernel_rfl) (by kernel_rfl) (by kernel_rfl) (fun _ _ _ h => h) (by kernel_rfl) (fun _ => ex_binOp .neq 9 9 _ _ (.string nm) (.string nm) _ rfl (by kernel_rfl) (by kernel_rfl) (by go_simp)) ?_
      simp only [Act.put, List.setIfInBounds_toArray, List.set_cons_zero, List.set_cons_succ]
      refine wpAny_at (i := 11) (v := .bool false) (some 27) rfl rfl (by kernel_rfl) (by kernel_rfl) (by kernel_rfl) (fun _ _ _ h => h) (by kernel_rfl) (fun _ => ex_move _ _ rfl (by kernel_rfl)) ?_
      simp only [Act.put, List.setIfInBounds_toArray, List.set_cons_zero, List.set_cons_succ]
      refine wpAny_at (i := 12) (v := .slice (some ⟨b1, o1, none⟩) xs.length c) (some 28) rfl rfl (by kernel_rfl) (by kernel_rfl) (by kernel_rfl) (fun _ _ _ h => h) (by kernel_rfl) (fun _ => ex_move _ _ rfl (by kernel_rfl)) ?_
      simp only [Act.put, List.setIfInBounds_toArray, List.set_cons_zero, List.set_cons_succ]
      refine wpAny_at (i := 13) (v := .int .i64 (k : Int)) (some 29) rfl rfl (by kernel_rfl) (by kernel_rfl) (by kernel_rfl) (fun _ _ _ h => h) (by kernel_rfl) (fun _ => ex_move _ _ rfl (by kernel_rfl)) ?_
      simp only [Act.put, List.setIfInBounds_toArray, List.set_cons_zero, List.set_cons_succ]
      refine wpAny_at (i := 14) (v := .pointer (some ⟨b1, o1 + k * 3, none⟩)) (some 30) rfl rfl (by kernel_rfl) (by kernel_rfl) (by kernel_rfl) (fun _ _ _ h => h) (by kernel_rfl) (fun _ => ex_indexAddr 39 _ _ (.slice (some ⟨b1, o1, none⟩) xs.length c) (.int .i64 (k : Int)) _ rfl (by kernel_rfl) (by kernel_rfl) (by go_simp)) ?_
      simp only [Act.put, List.setIfInBounds_toArray, List.set_cons_zero, List.set_cons_succ]
      refine wpAny_at (i := 15) (v := .pointer (some ⟨b1, o1 + k * 3 + 1, none⟩)) (some 31) rfl rfl (by kernel_rfl) (by kernel_rfl) (by kernel_rfl) (fun _ _ _ h => h) (by kernel_rfl) (fun _ => ex_fieldAddr 46 _ 1 (.pointer (some ⟨b1, o1 + k * 3, none⟩)) _ rfl (by kernel_rfl) (by go_simp)) ?_
      simp only [Act.put, List.setIfInBounds_toArray, List.set_cons_zero, List.set_cons_succ]
      refine wpAny_at (i := 17) (v := .slice (some ⟨b2, o2, none⟩) xs.length c2) (some 33) rfl rfl (by kernel_rfl) (by kernel_rfl) (by kernel_rfl) (fun _ _ _ h => h) (by kernel_rfl) (fun _ => ex_move _ _ rfl (by kernel_rfl)) ?_
      simp only [Act.put, List.setIfInBounds_toArray, List.set_cons_zero, List.set_cons_succ]
      refine wpAny_at (i := 18) (v := .int .i64 (k : Int)) (some 34) rfl rfl (by kernel_rfl) (by kernel_rfl) (by kernel_rfl) (fun _ _ _ h => h) (by kernel_rfl) (fun _ => ex_move _ _ rfl (by kernel_rfl)) ?_
      simp only [Act.put, List.setIfInBounds_toArray, List.set_cons_zero, List.set_cons_succ]
      refine wpAny_at (i := 19) (v := .pointer (some ⟨b2, o2 + k * 3, none⟩)) (some 35) rfl rfl (by kernel_rfl) (by kernel_rfl) (by kernel_rfl) (fun _ _ _ h => h) (by kernel_rfl) (fun _ => ex_indexAddr 39 _ _ (.slice (some ⟨b2, o2, none⟩) xs.length c2) (.int .i64 (k : Int)) _ rfl (by kernel_rfl) (by kernel_rfl) (by go_simp)) ?_
      simp only [Act.put, List.setIfInBounds_toArray, List.set_cons_zero, List.set_cons_succ]
      refine wpAny_at (i := 20) (v := .pointer (some ⟨b2, o2 + k * 3 + 1, none⟩)) (some 36) rfl rfl (by kernel_rfl) (by kernel_rfl) (by kernel_rfl) (fun _ _ _ h => h) (by kernel_rfl) (fun _ => ex_fieldAddr 46 _ 1 (.pointer (some ⟨b2, o2 + k * 3, none⟩)) _ rfl (by kernel_rfl) (by go_simp)) ?_
      simp only [Act.put, List.setIfInBounds_toArray, List.set_cons_zero, List.set_cons_succ]
      refine wpAny_both 16 21 32 37 (.string pa) (.string pa) (by kernel_rfl) (by kernel_rfl) (by kernel_rfl) rfl rfl rfl rfl (by decide) (by decide) (by kernel_rfl) (by kernel_rfl) (by kernel_rfl) (by kernel_rfl) (ex_load 9 _ (.pointer (some ⟨b1, o1 + k * 3 + 1, none⟩)) _ rfl (by kernel_rfl) (ld_str (w := wr.drew) y1)) (ex_load 9 _ (.pointer (some ⟨b2, o2 + k * 3 + 1, none⟩)) _ rfl (by kernel_rfl) (ld_str (w := wr.drew) z1)) (ex_load 9 _ (.pointer (some ⟨b1, o1 + k * 3 + 1, none⟩)) _ rfl (by kernel_rfl) (ld_str (w := wr.drew) y1)) (ex_load 9 _ (.pointer (some ⟨b2, o2 + k * 3 + 1, none⟩)) _ rfl (by kernel_rfl) (ld_str (w := wr.drew) z1)) rfl ?_
      simp only [Act.put, List.setIfInBounds_toArray, List.set_cons_zero, List.set_cons_succ]
      refine wpAny_at (i := 22) (v := .bool false) (some 38) rfl rfl (by kernel_rfl) (by kernel_rfl) (by kernel_rfl) (fun _ _ _ h => h) (by kernel_rfl) (fun _ => ex_binOp .neq 9 9 _ _ (.string pa) (.string pa) _ rfl (by kernel_rfl) (by kernel_rfl) (by go_simp)) ?_
      simp only [Act.put, List.setIfInBounds_toArray, List.set_cons_zero, List.set_cons_succ]
      refine wpAny_at (i := 23) (v := .bool false) (some 39) rfl rfl (by kernel_rfl) (by kernel_rfl) (by kernel_rfl) (fun _ _ _ h => h) (by kernel_rfl) (fun _ => ex_pick _ _ _ false (.bool true) (.bool false) rfl (by kernel_rfl) (by kernel_rfl) (by kernel_rfl)) ?_
      simp only [Act.put, List.setIfInBounds_toArray, List.set_cons_zero, List.set_cons_succ]
      refine wpAny_at (i := 24) (v := .bool false) (some 40) rfl rfl (by kernel_rfl) (by kernel_rfl) (by kernel_rfl) (fun _ _ _ h => h) (by kernel_rfl) (fun _ => ex_move _ _ rfl (by kernel_rfl)) ?_
      simp only [Act.put, List.setIfInBounds_toArray, List.set_cons_zero, List.set_cons_succ]
      refine wpAny_at (i := 25) (v := .slice (some ⟨b1, o1, none⟩) xs.length c) (some 41) rfl rfl (by kernel_rfl) (by kernel_rfl) (by kernel_rfl) (fun _ _ _ h => h) (by kernel_rfl) (fun _ => ex_move _ _ rfl (by kernel_rfl)) ?_
      simp only [Act.put, List.setIfInBounds_toArray, List.set_cons_zero, List.set_cons_succ]
      refine wpAny_at (i := 26) (v := .int .i64 (k : Int)) (some 42) rfl rfl (by kernel_rfl) (by kernel_rfl) (by kernel_rfl) (fun _ _ _ h => h) (by kernel_rfl) (fun _ => ex_move _ _ rfl (by kernel_rfl)) ?_
      simp only [Act.put, List.setIfInBounds_toArray, List.set_cons_zero, List.set_cons_succ]
      refine wpAny_at (i := 27) (v := .pointer (some ⟨b1, o1 + k * 3, none⟩)) (some 43) rfl rfl (by kernel_rfl) (by kernel_rfl) (by kernel_rfl) (fun _ _ _ h => h) (by kernel_rfl) (fun _ => ex_indexAddr 39 _ _ (.slice (some ⟨b1, o1, none⟩) xs.length c) (.int .i64 (k : Int)) _ rfl (by kernel_rfl) (by kernel_rfl) (by go_simp)) ?_
      simp only [Act.put, List.setIfInBounds_toArray, List.set_cons_zero, List.set_cons_succ]
      refine wpAny_at (i := 28) (v := .pointer (some ⟨b1, o1 + k * 3 + 2, none⟩)) (some 44) rfl rfl (by kernel_rfl) (by kernel_rfl) (by kernel_rfl) (fun _ _ _ h => h) (by kernel_rfl) (fun _ => ex_fieldAddr 46 _ 2 (.pointer (some ⟨b1, o1 + k * 3, none⟩)) _ rfl (by kernel_rfl) (by go_simp)) ?_
      simp only [Act.put, List.setIfInBounds_toArray, List.set_cons_zero, List.set_cons_succ]
      refine wpAny_at (i := 30) (v := .slice (some ⟨b2, o2, none⟩) xs.length c2) (some 46) rfl rfl (by kernel_rfl) (by kernel_rfl) (by kernel_rfl) (fun _ _ _ h => h) (by kernel_rfl) (fun _ => ex_move _ _ rfl (by kernel_rfl)) ?_
      simp only [Act.put, List.setIfInBounds_toArray, List.set_cons_zero, List.set_cons_succ]
      refine wpAny_at (i := 31) (v := .int .i64 (k : Int)) (some 47) rfl rfl (by kernel_rfl) (by kernel_rfl) (by kernel_rfl) (fun _ _ _ h => h) (by kernel_rfl) (fun _ => ex_move _ _ rfl (by kernel_rfl)) ?_
      simp only [Act.put, List.setIfInBounds_toArray, List.set_cons_zero, List.set_cons_succ]
      refine wpAny_at (i := 32) (v := .pointer (some ⟨b2, o2 + k * 3, none⟩)) (some 48) rfl rfl (by kernel_rfl) (by kernel_rfl) (by kernel_rfl) (fun _ _ _ h => h) (by kernel_rfl) (fun _ => ex_indexAddr 39 _ _ (.slice (some ⟨b2, o2, none⟩) xs.length c2) (.int .i64 (k : Int)) _ rfl (by kernel_rfl) (by kernel_rfl) (by go_simp)) ?_
      simp only [Act.put, List.setIfInBounds_toArray, List.set_cons_zero, List.set_cons_succ]
      refine wpAny_at (i := 33) (v := .pointer (some ⟨b2, o2 + k * 3 + 2, none⟩)) (some 49) rfl rfl (by kernel_rfl) (by kernel_rfl) (by kernel_rfl) (fun _ _ _ h => h) (by kernel_rfl) (fun _ => ex_fieldAddr 46 _ 2 (.pointer (some ⟨b2, o2 + k * 3, none⟩)) _ rfl (by kernel_rfl) (by go_simp)) ?_
      simp only [Act.put, List.setIfInBounds_toArray, List.set_cons_zero, List.set_cons_succ]
      refine wpAny_both 29 34 45 50 (.slice rA rn rc) (.slice r2A rn2 r2c) (by kernel_rfl) (by kernel_rfl) (by kernel_rfl) rfl rfl rfl rfl (by decide) (by decide) (by kernel_rfl) (by kernel_rfl) (by kernel_rfl) (by kernel_rfl) (ex_load 31 _ (.pointer (some ⟨b1, o1 + k * 3 + 2, none⟩)) _ rfl (by kernel_rfl) (ld_rules (w := wr.drew) y2)) (ex_load 31 _ (.pointer (some ⟨b2, o2 + k * 3 + 2, none⟩)) _ rfl (by kernel_rfl) (ld_rules (w := wr.drew) z2)) (ex_load 31 _ (.pointer (some ⟨b1, o1 + k * 3 + 2, none⟩)) _ rfl (by kernel_rfl) (ld_rules (w := wr.drew) y2)) (ex_load 31 _ (.pointer (some ⟨b2, o2 + k * 3 + 2, none⟩)) _ rfl (by kernel_rfl) (ld_rules (w := wr.drew) z2)) rfl ?_
      simp only [Act.put, List.setIfInBounds_toArray, List.set_cons_zero, List.set_cons_succ]
      refine wpAny_call 35 (some 51) (by kernel_rfl) rfl rfl (by kernel_rfl) 41 (#[.slice rA rn rc, .slice r2A rn2 r2c]) (by go_simp) (HS1.out _ (below_drewN (Below.refl _ wr) 1)) ?_
      rintro e wa ⟨rfl, hba⟩
      refine ⟨_, rfl, ?_⟩
      have hx5 := (below_drewN (Below.refl wr.heap.size wr) 1).trans hba
      simp only [Act.put, List.setIfInBounds_toArray, List.set_cons_zero, List.set_cons_succ]
      refine wpAny_at (i := 36) (v := .bool false) (some 52) rfl rfl (by kernel_rfl) (by kernel_rfl) (by kernel_rfl) (fun _ _ _ h => h) (by kernel_rfl) (fun _ => ex_unOp .not 4 _ (.bool true) _ rfl (by kernel_rfl) (by go_simp)) ?_
      simp only [Act.put, List.setIfInBounds_toArray, List.set_cons_zero, List.set_cons_succ]
      refine wpAny_at (i := 37) (v := .bool false) (some 53) rfl rfl (by kernel_rfl) (by kernel_rfl) (by kernel_rfl) (fun _ _ _ h => h) (by kernel_rfl) (fun _ => ex_pick _ _ _ false (.bool true) (.bool false) rfl (by kernel_rfl) (by kernel_rfl) (by kernel_rfl)) ?_
      simp only [Act.put, List.setIfInBounds_toArray, List.set_cons_zero, List.set_cons_succ]
      refine wpAny_done (by kernel_rfl) ?_ _
      have HB5 := Lib.hid (HB.out.trans (hx5.mono hz))
      clear hx5 hba
      go_wp2_with fail
      go_roundg (xs.length - (k + 1))
      case measure => omega
      case rel => exact ⟨k + 1, by go_num, by omega, HB5.out, Nat.le_refl _⟩
    · obtain rfl : k = xs.length := by omega
      have hki : ¬ (xs.length : Int) < (xs.length : Int) := by omega
      go_wp2_with fail
      rw [HRR.out]
      exact ⟨rfl, HB.out⟩

end Go.Proofs.YtpboaadjbkaidaaDoor

namespace Go.Proofs.YtpboaadjbkaidaaDoor
set_option maxRecDepth 100000

def rulesV : List Ru → Int
  | [] => 0
  | r :: rs => if validF r.bf ≠ 0 then validF r.bf else if validF r.af ≠ 0 then validF r.af else rulesV rs
def validGo : List Tb → List Tb → Int
  | _, [] => 0
  | seen, t :: ts =>
    if nameL t.nm.data.toList = false ∨ (t.pa.data.toList ≠ [] ∧ nameL t.pa.data.toList = false) then 4
    else if seen.any (fun u => u.nm.data.toList == t.nm.data.toList) = true then 5
    else if 32 < t.rs.length then 3
    else if rulesV t.rs ≠ 0 then rulesV t.rs
    else validGo (seen ++ [t]) ts
def validT (ts : List Tb) : Int := if 16 < ts.length then 3 else validGo [] ts

/-- A pattern that is valid. -/
def PatOk (p : List At) : Prop := p.length ≤ 32 ∧ ∀ x ∈ p, x.mn = 0 ∨ x.mn = 1
theorem PatOk.nil : PatOk [] := ⟨Nat.zero_le _, fun _ h => by simp at h⟩
theorem PatOk.valid {p : List At} (h : PatOk p) : validF p = 0 := by
  unfold validF
  rw [if_neg (by have := h.1; omega), if_pos]
  rw [List.all_eq_true]
  intro x hx
  rcases h.2 x hx with e | e
  · rw [e]; rfl
  · rw [e]; rfl
theorem quantF_mn (s : ByteArray) (j : Nat) : (quantF s j).1 = 0 ∨ (quantF s j).1 = 1 := by
  unfold quantF
  split
  · split
    · exact .inl rfl
    · split
      · exact .inr rfl
      · split
        · exact .inl rfl
        · exact .inr rfl
  · exact .inr rfl
theorem parseL_ok (s : ByteArray) : ∀ (f i : Nat) (l : List At), PatOk l → PatOk (parseL s f i l).1
  | 0, _, l, h => h
  | f + 1, i, l, h => by
    rw [parseL]
    split
    · split
      · exact PatOk.nil
      · rename_i h32
        split
        · exact PatOk.nil
        · refine parseL_ok s f _ _ ⟨by simp; omega, fun x hx => ?_⟩
          rcases List.mem_append.1 hx with hx | hx
          · exact h.2 x hx
          · rw [List.mem_singleton.1 hx]
            exact quantF_mn s _
    · exact h
theorem parseF_ok (s : ByteArray) : PatOk (parseF s).1 := parseL_ok s _ _ _ PatOk.nil
theorem sideF_ok (w : List UInt8) : PatOk (sideF w).1 := by
  unfold sideF
  split
  · exact PatOk.nil
  · exact parseF_ok _
def RuFine (r : Ru) : Prop := PatOk r.bf ∧ PatOk r.af
def TbFine (t : Tb) : Prop := nameL t.nm.data.toList = true ∧ (t.pa.data.toList = [] ∨ nameL t.pa.data.toList = true) ∧ t.rs.length ≤ 32 ∧ ∀ r ∈ t.rs, RuFine r
def TsFine (ts : List Tb) : Prop := ts.length ≤ 16 ∧ (∀ t ∈ ts, TbFine t) ∧ ts.Pairwise fun t u => t.nm.data.toList ≠ u.nm.data.toList
theorem TsFine.nil : TsFine [] := ⟨Nat.zero_le _, fun _ h => by simp at h, List.Pairwise.nil⟩
theorem rulesV_fine : ∀ rs : List Ru, (∀ r ∈ rs, RuFine r) → rulesV rs = 0
  | [], _ => rfl
  | r :: rs, h => by
    rw [rulesV, (h r (by simp)).1.valid, (h r (by simp)).2.valid, if_neg (by decide), if_neg (by decide)]
    exact rulesV_fine rs fun x hx => h x (by simp [hx])
theorem validGo_fine : ∀ (ts seen : List Tb), (∀ t ∈ ts, TbFine t) → (seen ++ ts).Pairwise (fun t u => t.nm.data.toList ≠ u.nm.data.toList) → validGo seen ts = 0
  | [], _, _, _ => rfl
  | t :: ts, seen, h, hp => by
    obtain ⟨h1, h2, h3, h4⟩ := h t (by simp)
    rw [validGo, if_neg (by rintro (e | ⟨e1, e2⟩); rw [h1] at e; cases e; rcases h2 with h2 | h2; exact e1 h2; rw [h2] at e2; cases e2), if_neg, if_neg (by omega), rulesV_fine _ h4, if_neg (by decide)]
    · refine validGo_fine ts (seen ++ [t]) (fun x hx => h x (by simp [hx])) ?_
      rw [List.append_assoc]
      exact hp
    · intro e
      obtain ⟨u, hu, e⟩ := List.any_eq_true.1 e
      rw [List.pairwise_append] at hp
      exact hp.2.2 u hu t (by simp) (by simpa using e)
theorem validT_fine (ts : List Tb) (h : TsFine ts) : validT ts = 0 := by
  unfold validT
  rw [if_neg (by have := h.1; omega)]
  exact validGo_fine ts [] h.2.1 h.2.2
theorem tableF_fine (ts : List Tb) (w : List (List UInt8)) (h : TsFine ts) : TsFine (tableF ts w).1 := by
  unfold tableF
  split
  · exact TsFine.nil
  · split
    · exact TsFine.nil
    · rename_i hn
      split
      · exact TsFine.nil
      · rename_i hd
        split
        · exact TsFine.nil
        · rename_i h16
          have h1 : nameL (w.getD 1 []) = true := by
            cases e : nameL (w.getD 1 []) with
            | true => rfl
            | false => exact absurd (.inl e) hn
          refine ⟨by simp; omega, fun t ht => ?_, ?_⟩
          · rcases List.mem_append.1 ht with ht | ht
            · exact h.2.1 t ht
            · rw [List.mem_singleton.1 ht]
              refine ⟨by rw [ofL_list]; exact h1, ?_, Nat.zero_le _, fun _ h => by simp at h⟩
              show (if w.length = 3 then ofL (w.getD 2 []) else ofL []).data.toList = [] ∨ nameL (if w.length = 3 then ofL (w.getD 2 []) else ofL []).data.toList = true
              split
              · rename_i h3
                right
                rw [ofL_list]
                cases e : nameL (w.getD 2 []) with
                | true => rfl
                | false => exact absurd (.inr ⟨h3, e⟩) hn
              · left; rfl
          · rw [List.pairwise_append]
            refine ⟨h.2.2, by simp, fun t ht u hu => ?_⟩
            rw [List.mem_singleton.1 hu]
            intro e
            refine hd (List.any_eq_true.2 ⟨t, ht, ?_⟩)
            rw [ofL_list] at e
            rw [e]
            exact beq_self_eq_true _
theorem addLast_mem (r : Ru) : ∀ (ts : List Tb) (t : Tb), t ∈ addLast ts r → t ∈ ts ∨ ∃ u, ts.getLast? = some u ∧ t = ⟨u.nm, u.pa, u.rs ++ [r]⟩
  | [], t, h => by simp [addLast] at h
  | [a], t, h => by
    right
    exact ⟨a, rfl, by simpa [addLast] using h⟩
  | a :: b :: ts, t, h => by
    rw [addLast] at h
    rcases List.mem_cons.1 h with rfl | h
    · exact .inl (by simp)
    · rcases addLast_mem r (b :: ts) t h with h | ⟨u, h1, h2⟩
      · exact .inl (by simp at h ⊢; exact .inr h)
      · exact .inr ⟨u, by rw [List.getLast?_cons_cons]; exact h1, h2⟩
theorem addLast_names (r : Ru) : ∀ ts : List Tb, (addLast ts r).map (fun t => t.nm.data.toList) = ts.map fun t => t.nm.data.toList
  | [] => rfl
  | [_] => rfl
  | a :: b :: ts => by rw [addLast, List.map_cons, addLast_names r (b :: ts)]; rfl
theorem names_pair (ts : List Tb) : (ts.Pairwise fun t u => t.nm.data.toList ≠ u.nm.data.toList) ↔ (ts.map fun t => t.nm.data.toList).Pairwise (· ≠ ·) := by
  rw [List.pairwise_map]
theorem ruleF_fine (ts : List Tb) (w : List (List UInt8)) (h : TsFine ts) : TsFine (ruleF ts w).1 := by
  unfold ruleF
  split
  · exact TsFine.nil
  · split
    · exact TsFine.nil
    · split
      · exact TsFine.nil
      · split
        · exact TsFine.nil
        · split
          · exact TsFine.nil
          · rename_i h32
            refine ⟨by rw [addLast_len]; exact h.1, fun t ht => ?_, ?_⟩
            · rcases addLast_mem _ ts t ht with ht | ⟨u, hu, rfl⟩
              · exact h.2.1 t ht
              · rw [hu] at h32
                have hu2 := h.2.1 u (List.mem_of_getLast? hu)
                refine ⟨hu2.1, hu2.2.1, ?_, fun r hr => ?_⟩
                · simp only [Option.map_some, Option.getD_some] at h32
                  simp; omega
                · rcases List.mem_append.1 hr with hr | hr
                  · exact hu2.2.2.2 r hr
                  · rw [List.mem_singleton.1 hr]
                    exact ⟨sideF_ok _, sideF_ok _⟩
            · rw [names_pair, addLast_names, ← names_pair]
              exact h.2.2
theorem lineF_fine (ts : List Tb) (w : List (List UInt8)) (h : TsFine ts) : TsFine (lineF ts w).1 := by
  unfold lineF
  split
  · exact tableF_fine ts w h
  · split
    · exact ruleF_fine ts w h
    · exact TsFine.nil
theorem linesF_fine : ∀ (ls : List (List UInt8)) (n : Nat) (ts : List Tb), TsFine ts → TsFine (linesF ls n ts).1
  | [], _, _, h => h
  | s :: rest, n, ts, h => by
    rw [linesF]
    split
    · exact linesF_fine rest (n + 1) ts h
    · split
      · exact TsFine.nil
      · exact linesF_fine rest (n + 1) _ (lineF_fine ts _ h)
theorem rulesF_fine (s : ByteArray) : TsFine (rulesF s).1 := by
  unfold rulesF
  split
  · exact TsFine.nil
  · exact linesF_fine _ _ _ TsFine.nil

end Go.Proofs.YtpboaadjbkaidaaDoor

namespace Go.Proofs.YtpboaadjbkaidaaDoor
set_option maxRecDepth 100000
open Go.RowKit

def fileW : List ByteArray := [⟨#[116, 97, 98, 108, 101, 32, 101, 110, 10]⟩, ⟨#[116, 97, 98, 108, 101, 32, 100, 101, 32, 101, 110, 10]⟩, ⟨#[116, 97, 98, 108, 101, 32, 102, 114, 32, 100, 101, 10]⟩, ⟨#[98, 114, 101, 97, 107, 32, 91, 46, 33, 93, 32, 92, 115, 10]⟩, ⟨#[32, 107, 101, 101, 112, 32, 32, 97, 92, 46, 32, 32, 45, 32, 10]⟩, ⟨#[98, 114, 101, 97, 107, 32, 45, 32, 92, 115, 43, 10]⟩, ⟨#[35, 32, 120, 10]⟩, ⟨#[10]⟩, ⟨#[116, 97, 98, 108, 101, 32, 120, 45, 49, 10]⟩, ⟨#[98, 114, 101, 97, 107, 32, 97, 10]⟩, ⟨#[107, 101, 101, 112, 32, 91, 32, 97, 10]⟩, ⟨#[116, 97, 98, 108, 101, 32, 49, 10]⟩, ⟨#[114, 117, 108, 101, 32, 97, 32, 98, 10]⟩, ⟨#[98, 114, 101, 97, 107, 32, 97, 32, 98]⟩]
theorem fileW_size : ∀ u ∈ fileW, u.size ≤ 20 := by decide
theorem file_at (w : World) (z : Int) (h0 : 0 ≤ z) (hz : z < 14) : ∃ word : ByteArray, word.size ≤ 20 ∧ (w.alloc (.cells #[.string ⟨#[116, 97, 98, 108, 101, 32, 101, 110, 10]⟩, .string ⟨#[116, 97, 98, 108, 101, 32, 100, 101, 32, 101, 110, 10]⟩, .string ⟨#[116, 97, 98, 108, 101, 32, 102, 114, 32, 100, 101, 10]⟩, .string ⟨#[98, 114, 101, 97, 107, 32, 91, 46, 33, 93, 32, 92, 115, 10]⟩, .string ⟨#[32, 107, 101, 101, 112, 32, 32, 97, 92, 46, 32, 32, 45, 32, 10]⟩, .string ⟨#[98, 114, 101, 97, 107, 32, 45, 32, 92, 115, 43, 10]⟩, .string ⟨#[35, 32, 120, 10]⟩, .string ⟨#[10]⟩, .string ⟨#[116, 97, 98, 108, 101, 32, 120, 45, 49, 10]⟩, .string ⟨#[98, 114, 101, 97, 107, 32, 97, 10]⟩, .string ⟨#[107, 101, 101, 112, 32, 91, 32, 97, 10]⟩, .string ⟨#[116, 97, 98, 108, 101, 32, 49, 10]⟩, .string ⟨#[114, 117, 108, 101, 32, 97, 32, 98, 10]⟩, .string ⟨#[98, 114, 101, 97, 107, 32, 97, 32, 98]⟩] 9)).cell? ⟨w.heap.size, z.toNat, none⟩ = some (.string word) := by
  have hl : z.toNat < fileW.length := by show z.toNat < 14; omega
  refine ⟨fileW[z.toNat], fileW_size _ (List.getElem_mem hl), ?_⟩
  have := cells_new w (fileW.map Value.string) 9 z.toNat (.string fileW[z.toNat]) (by rw [List.getElem?_map, List.getElem?_eq_getElem hl]; rfl)
  rwa [Addr.add_lit, Nat.zero_add] at this
theorem fine_small {ts : List Tb} (h : TsFine ts) : TbSmall ts := by
  refine ⟨Nat.le_trans h.1 (by decide), fun t ht => ⟨Nat.le_trans (h.2.1 t ht).2.2.1 (by decide), fun r hr => ?_⟩⟩
  have := (h.2.1 t ht).2.2.2 r hr
  exact ⟨Nat.le_trans this.1.1 (by decide), Nat.le_trans this.2.1 (by decide)⟩

set_option maxRecDepth 100000 in
set_option maxHeartbeats 4000000 in
theorem file6_any (A : Option Addr) (c : Nat) (l : List Int) (w : World) (hr : RdE intC 1 w (.slice A l.length c) l) (hin : ∀ x ∈ l, IntIn x) (hl : l.length ≤ 9223372036854775807) :
    Calls Tryd.prog 19 #[.slice A l.length c] w (RetStr w 600) := by
  obtain ⟨R, HRR⟩ : ∃ R, Hid (R = RetStr w 600) := ⟨_, rfl⟩
  rw [← HRR.out]
  have HR := Lib.hid hr
  have HI := Lib.hid hin
  clear hr hin
  go_enter Tryd.func19, Tryd.ntmps19
  go_wp2_with fail
  go_loopg [3, 4] 30 (fun n sv iv wr => ∃ (u : ByteArray) (k : Nat), sv = .string u ∧ iv = .int .i64 k ∧ k ≤ 30 ∧ k ≤ l.length ∧ u.size ≤ 20 * k ∧ Hid (Below w.heap.size w wr) ∧ 30 - k ≤ n)
  case atStart => exact ⟨_, 0, rfl, rfl, by omega, by omega, by decide, Below.refl _ _, by omega⟩
  case round =>
    obtain ⟨u, k, rfl, rfl, hk, hkl, hu, HB, hgk⟩ := hrel
    by_cases hlt : k < l.length
    · have hlti : (k : Int) < (l.length : Int) := by omega
      by_cases h40 : k < 30
      · have h40i : (k : Int) < 30 := by omega
        obtain ⟨b, o, rfl, hbl, hcell⟩ := HR.out.cells (by omega)
        have q0 := (HB.out.cell (p := ⟨b, o + (k * 1 + 0), none⟩) hbl).trans (hcell k l[k] 0 _ (List.getElem?_eq_getElem hlt) rfl)
        rw [show o + (k * 1 + 0) = o + k by omega] at q0
        have hx := HI.out l[k] (List.getElem_mem _)
        generalize l[k] = x at q0 hx
        have HP := Lib.hid (fun w => place_any x 14 w hx (by decide) (by decide))
        have hz1 := Int.emod_nonneg x (show (14 : Int) ≠ 0 by decide)
        have hz2 := Int.emod_lt_of_pos x (show (0 : Int) < 14 by decide)
        generalize x % 14 = z at HP hz1 hz2
        obtain ⟨word, hws, q1⟩ := file_at wr z hz1 hz2
        have q0' : (wr.alloc (.cells #[.string ⟨#[116, 97, 98, 108, 101, 32, 101, 110, 10]⟩, .string ⟨#[116, 97, 98, 108, 101, 32, 100, 101, 32, 101, 110, 10]⟩, .string ⟨#[116, 97, 98, 108, 101, 32, 102, 114, 32, 100, 101, 10]⟩, .string ⟨#[98, 114, 101, 97, 107, 32, 91, 46, 33, 93, 32, 92, 115, 10]⟩, .string ⟨#[32, 107, 101, 101, 112, 32, 32, 97, 92, 46, 32, 32, 45, 32, 10]⟩, .string ⟨#[98, 114, 101, 97, 107, 32, 45, 32, 92, 115, 43, 10]⟩, .string ⟨#[35, 32, 120, 10]⟩, .string ⟨#[10]⟩, .string ⟨#[116, 97, 98, 108, 101, 32, 120, 45, 49, 10]⟩, .string ⟨#[98, 114, 101, 97, 107, 32, 97, 10]⟩, .string ⟨#[107, 101, 101, 112, 32, 91, 32, 97, 10]⟩, .string ⟨#[116, 97, 98, 108, 101, 32, 49, 10]⟩, .string ⟨#[114, 117, 108, 101, 32, 97, 32, 98, 10]⟩, .string ⟨#[98, 114, 101, 97, 107, 32, 97, 32, 98]⟩] 9)).cell? ⟨b, o + k, none⟩ = some (.int .i64 x) := by
          rw [← q0]
          exact Below.cell ((Below.refl _ wr).alloc (Nat.le_refl _) _) (p := ⟨b, o + k, none⟩) (Nat.lt_of_lt_of_le hbl HB.out.size)
        have hsz := HB.out.size
        go_wp2_with (go_at_call 14; refine (HP.out _).mono ?_; rintro e w' ⟨rfl, rfl⟩)
        go_roundg (30 - (k + 1))
        case measure => omega
        case rel => exact ⟨_, k + 1, rfl, by go_num, by omega, by omega, by rw [size_append]; omega, HB.out.alloc hsz _, Nat.le_refl _⟩
      · have h40i : ¬ (k : Int) < 30 := by omega
        go_wp2_with fail
        rw [HRR.out]
        exact ⟨u, by omega, rfl, HB.out⟩
    · have hlti : ¬ (k : Int) < (l.length : Int) := by omega
      go_wp2_with fail
      rw [HRR.out]
      exact ⟨u, by omega, rfl, HB.out⟩

end Go.Proofs.YtpboaadjbkaidaaDoor

namespace Go.Proofs.YtpboaadjbkaidaaDoor
set_option maxRecDepth 100000
open Go.RowKit Go.Maps

theorem valid_any2 (p : List At) (pv : Value) (w : World) (hp : RdE atC 34 w pv p) :
    Calls Tryd.prog 59 #[pv] w fun e w' => e = .returned (.int .i64 (validF p)) ∧ Below w.heap.size w w' := by
  by_cases h32 : 32 < p.length
  · obtain ⟨A, c, rfl, hlc, _⟩ := hp.shape
    have h32i : (32 : Int) < (p.length : Int) := by omega
    have HE : Hid (validF p = 3) := by show _ = _; unfold validF; rw [if_pos h32]
    rw [HE.out]
    go_enter Tryd.func59, Tryd.ntmps59
    go_wp2_with fail
    go_ret
    exact ⟨rfl, Below.refl _ _⟩
  · exact valid_any p pv w hp (by omega)
theorem rvalid_any2 (p : List At) (pv : Value) (w : World) (hp : RdE atC 34 w pv p) :
    Calls Tryd.prog 62 #[pv] w fun e w' => e = .returned (.int .i64 (validF p)) ∧ Below w.heap.size w w' := by
  by_cases h32 : 32 < p.length
  · obtain ⟨A, c, rfl, hlc, _⟩ := hp.shape
    have h32i : (32 : Int) < (p.length : Int) := by omega
    have HE : Hid (validF p = 3) := by show _ = _; unfold validF; rw [if_pos h32]
    rw [HE.out]
    go_enter Tryd.func62, Tryd.ntmps62
    go_wp2_with fail
    go_ret
    exact ⟨rfl, Below.refl _ _⟩
  · exact rvalid_any p pv w hp (by omega)

/-- Block b is a set of names. -/
def NameSet (w : World) (b n : Nat) (ns : List (List UInt8)) : Prop :=
  ∃ D : DataW Unit, w.ownsMap Tryd.prog 9 (plainElem Tryd.prog 4) b n D ∧ IsMap D ∧ ∀ s : ByteArray, s.size ≤ maxLen → D.atKey (.string s.data.toList) (.lit (.bool false)) = .lit (.bool (ns.any fun x => x == s.data.toList))
theorem str_keyed : Keyed Tryd.prog 9 := string_keyed Tryd.underlying9
theorem key_str (s : ByteArray) (h : s.size ≤ maxLen) : keyOf Tryd.prog 9 (.string s) = some (.string s.data.toList) := by
  unfold keyOf
  rw [Tryd.underlying9]
  simp [mapKey, Tryd.underlying9, h]
theorem zero_bool (w : World) : (zeroValue 4).run Tryd.prog w = .ok (.bool false) w := by kernel_rfl
theorem NameSet.made (w : World) : NameSet (w.alloc (.map #[] 0)) w.heap.size 0 [] :=
  ⟨_, World.ownsMap_made _ _ _ _, isMap_empty, fun _ _ => rfl⟩
theorem NameSet.lt {w : World} {b n : Nat} {ns : List (List UInt8)} (h : NameSet w b n ns) : b < w.heap.size := by
  obtain ⟨D, h1, _⟩ := h
  exact h1.lt
theorem NameSet.same {w w' : World} {b n : Nat} {ns : List (List UInt8)} (h : NameSet w b n ns) (e : w'.heap[b]? = w.heap[b]?) : NameSet w' b n ns := by
  obtain ⟨D, ⟨es, clock, hb, F, hs, hD⟩, h2⟩ := h
  exact ⟨D, ⟨es, clock, e.trans hb, F, hs, hD⟩, h2⟩
theorem plainElem_bool_inv {v : Value} {x : Bool} {ps : List MemPlace} (h : plainElem (H := Unit) Tryd.prog 4 v = some (.lit (.bool x), ps)) : v = .bool x := by
  unfold plainElem at h
  rw [Tryd.underlying4] at h
  cases v <;> simp_all
theorem NameSet.look {w : World} {b n : Nat} {ns : List (List UInt8)} (h : NameSet w b n ns) (s : ByteArray) (hs : s.size ≤ maxLen) :
    (Instr.lookup 94 (.map (some b)) (.string s) false).run Tryd.prog w = .ok (.bool (ns.any fun x => x == s.data.toList)) w := by
  obtain ⟨D, h1, h2, h3⟩ := h
  obtain ⟨v, ps, hlk, hR⟩ := h1.lookup str_keyed Tryd.underlying94 (zero_bool w) (plainElem_bool Tryd.underlying4 false) (key_str s hs)
  rw [h3 s hs] at hR
  rw [hlk, plainElem_bool_inv hR]
theorem NameSet.put {w : World} {b n : Nat} {ns : List (List UInt8)} (h : NameSet w b n ns) (s : ByteArray) (hs : s.size ≤ maxLen) (hn : n < maxLen) :
    ∃ w2, (Instr.mapUpdate 94 (.map (some b)) (.string s) (.bool true)).run Tryd.prog w = .ok () w2 ∧ NameSet w2 b (n + 1) (ns ++ [s.data.toList]) ∧ w.grownBy w2 (some b) := by
  obtain ⟨D, h1, h2, h3⟩ := h
  have hkey := key_str s hs
  obtain ⟨w2, hup, hown, hg⟩ := h1.update str_keyed Tryd.underlying94 hn hkey (plainElem_bool (H := Unit) Tryd.underlying4 true)
  refine ⟨w2, hup, ⟨_, hown, h2.put _ _, fun u hu => ?_⟩, hg⟩
  by_cases e : u.data.toList = s.data.toList
  · rw [e, atKey_put_same h2 (str_keyed.key hkey)]
    simp
  · rw [atKey_put_other (fun e' => e (by injection e'))]
    rw [h3 u hu]
    simp
    intro e'
    exact absurd (by rw [e']) e

end Go.Proofs.YtpboaadjbkaidaaDoor

namespace Go.Proofs.YtpboaadjbkaidaaDoor
set_option maxRecDepth 100000
open Go.RowKit Go.Maps

/-- What tables in memory keep to: each text and list has a length. -/
def TbIn (ts : List Tb) : Prop := ts.length ≤ maxLen ∧ ∀ t ∈ ts, t.nm.size ≤ maxLen ∧ t.pa.size ≤ maxLen
def IntRet (w : World) (x : Int) (e : Ending) (w' : World) : Prop := e = .returned (.int .i64 x) ∧ Below w.heap.size w w'
theorem ld_pat {w : World} {b o : Nat} {A : Option Addr} {n c : Nat} (h : w.cell? ⟨b, o, none⟩ = some (.slice A n c)) : (Instr.loadAt 28 (.pointer (some ⟨b, o, none⟩))).run Tryd.prog w = .ok (.slice A n c) w := ld_slice h
theorem validGo_step (seen : List Tb) (t : Tb) (ts : List Tb) : validGo seen (t :: ts) = if nameL t.nm.data.toList = false ∨ (t.pa.data.toList ≠ [] ∧ nameL t.pa.data.toList = false) then 4 else if seen.any (fun u => u.nm.data.toList == t.nm.data.toList) = true then 5 else if 32 < t.rs.length then 3 else if rulesV t.rs ≠ 0 then rulesV t.rs else validGo (seen ++ [t]) ts := rfl
theorem rulesV_step (r : Ru) (rs : List Ru) : rulesV (r :: rs) = if validF r.bf ≠ 0 then validF r.bf else if validF r.af ≠ 0 then validF r.af else rulesV rs := rfl
theorem ld_str0 {w : World} {b o : Nat} {x : ByteArray} (h : w.cell? ⟨b, o, none⟩ = some (.string x)) : (Instr.loadAt 9 (.pointer (some ⟨b, o, none⟩))).run Tryd.prog w = .ok (.string x) w := by
  go_simp
theorem RdTb.take {w : World} {A : Option Addr} {n c : Nat} {ts : List Tb} (h : RdTb w (.slice A n c) ts) (k : Nat) (hk : k ≤ ts.length) : RdTb w (.slice A k c) (ts.take k) := by
  obtain ⟨xs, h1, h2, h3⟩ := h
  refine ⟨xs.take k, h1.take k (by omega), by simp [h2], fun i x t hx ht => ?_⟩
  have hi : i < k := by
    have := (List.getElem?_eq_some_iff.1 hx).1
    simp at this
    omega
  rw [List.getElem?_take_of_lt hi] at hx ht
  exact h3 i x t hx ht
theorem run_tables_to (A : Option Addr) (n c k : Nat) (hk : k ≤ n) (hn : n ≤ c) (w : World) : (Instr.sliceAt 39 (.slice A n c) none (some (.int .i64 (k : Int))) none).run Tryd.prog w = .ok (.slice A k c) w := by
  have hel : Tryd.prog.underlying 39 = some (.slice (Tryd.prog.elem 39)) := by kernel_rfl
  have h1 : (k : Int) ≤ (c : Int) := by omega
  have h2 : (0 : Int) ≤ (k : Int) := by omega
  have h3 : (k : Int) ≤ (n : Int) := by omega
  have hsz : ∀ W : World, (sizeOf (Tryd.prog.elem 39)).run Tryd.prog W = .ok 3 W := fun W => by kernel_rfl
  have e : (if c = 0 then A else A.map (·.add (0 * 3))) = A := by
    split
    · rfl
    · rcases A with _ | ⟨b, o, sp⟩ <;> simp [Addr.add]
  rw [run_sliceAt_slice (h := hel), run_slice_h _ _ _ _ _ hel .i64 (k : Int) (by omega) (by omega), hsz]
  simp only [Result.andThen, sliced, Int.toNat_natCast, Nat.sub_zero, e]


set_option maxRecDepth 100000 in
set_option maxHeartbeats 16000000 in
theorem segValidate_any (ts : List Tb) (v : Value) (w : World) (ht : RdTb w v ts) (hin : TbIn ts) :
    Calls Tryd.prog 23 #[v] w (IntRet w (validT ts)) := by
  obtain ⟨V, HV⟩ : ∃ V, Hid (V = validT ts) := ⟨_, rfl⟩
  rw [← HV.out]
  obtain ⟨R, HRR⟩ : ∃ R, Hid (R = IntRet w V) := ⟨_, rfl⟩
  rw [← HRR.out]
  have HT := Lib.hid ht
  obtain ⟨xs, hx0, hxl, hx⟩ := ht
  have hxa : xs.length ≤ ts.length := Nat.le_of_eq hxl
  have hxb : ts.length ≤ xs.length := Nat.le_of_eq hxl.symm
  rw [show v = v from rfl] at HT
  obtain ⟨A, c, hv, hlc, _⟩ := hx0.shape
  subst hv
  by_cases h16 : 16 < xs.length
  · have h16i : (16 : Int) < (xs.length : Int) := by omega
    have e0 : V = 3 := by rw [HV.out]; unfold validT; rw [if_pos (by omega)]
    go_enter Tryd.func23, Tryd.ntmps23
    go_wp2_with fail
    rw [HRR.out, e0]
    exact ⟨rfl, Below.refl _ _⟩
  have h16i : ¬ (16 : Int) < (xs.length : Int) := by omega
  have HV0 : Hid (validGo [] ts = V) := by show _ = _; rw [HV.out]; unfold validT; rw [if_neg (by omega)]
  have HX := Lib.hid hx0
  have HXR := Lib.hid hx
  have HIN := Lib.hid hin.2
  clear hx0 hx hxl HV hin
  have hu := Tryd.underlying46
  have hi : (Tryd.prog.info? 46).map (·.size) = some 3 := table_size
  have hur := Tryd.underlying30
  have hir : (Tryd.prog.info? 30).map (·.size) = some 3 := by kernel_rfl
  have HM0 : Hid (NameSet (w.alloc (.map #[] 0)) w.heap.size 0 []) := NameSet.made w
  have HB0 := Lib.hid ((Below.refl w.heap.size w).alloc (Nat.le_refl _) (.map #[] 0))
  have hmm : (Instr.makeMap 94 none).run Tryd.prog w = .ok (.map (some w.heap.size)) (w.alloc (.map #[] 0)) := rfl
  go_enter Tryd.func23, Tryd.ntmps23
  go_upto_region 4 with fail
  generalize hM : w.heap.size = M at HM0 ⊢
  generalize w.alloc (.map #[] 0) = w0 at HM0 HB0 ⊢
  have hMw : w.heap.size ≤ M := by omega
  clear hM
  go_wp2_with fail
  obtain ⟨wo, HWO⟩ : ∃ wo, Hid (wo = w0) := ⟨w0, rfl⟩
  go_loopg [16] xs.length (fun gk kv wr => ∃ k : Nat, kv = .int .i64 k ∧ k ≤ xs.length ∧ Hid (validGo (ts.take k) (ts.drop k) = V) ∧ Hid (NameSet wr M k ((ts.take k).map fun t => t.nm.data.toList)) ∧ Hid (Below w.heap.size w wr) ∧ xs.length - k ≤ gk)
  case atStart => exact ⟨0, rfl, by omega, HV0.out, HM0.out, HB0.out, by omega⟩
  case round =>
    clear HWO HV0 HB0 HM0
    obtain ⟨k, rfl, hk, HV, HM, HB, hgk⟩ := hrel
    by_cases hkl : k < xs.length
    · have hki : (k : Int) < (xs.length : Int) := by omega
      have hk0 : (0 : Int) ≤ (k : Int) := by omega
      obtain ⟨b, o, rfl, hbl, hcell⟩ := HX.out.cells (by omega)
      have hkt : k < ts.length := by omega
      have hxk : xs[k]? = some xs[k] := List.getElem?_eq_getElem hkl
      have htk : ts[k]? = some (ts[k]'hkt) := List.getElem?_eq_getElem hkt
      have hrg : wr.rangeAt b (o + k * 3) (tbC xs[k]) := fun j v hj => by
        rw [Nat.add_assoc]
        exact (HB.out.cell (p := ⟨b, o + (k * 3 + j), none⟩) hbl).trans (hcell k _ j v hxk hj)
      obtain ⟨hnm, hpa, hru⟩ := HXR.out k _ _ hxk htk
      obtain ⟨hns, hps⟩ := HIN.out _ (List.getElem_mem hkt)
      have HV2 := Lib.hid ((show validGo (ts.take k) (ts[k]'hkt :: ts.drop (k + 1)) = V by rw [← List.drop_eq_getElem_cons hkt]; exact HV.out))
      rw [validGo_step] at HV2
      have HTK : Hid (ts.take (k + 1) = ts.take k ++ [ts[k]'hkt]) := List.take_succ_eq_append_getElem hkt
      have HU1 := Lib.hid hru
      clear hcell hxk htk hru HV
      generalize xs[k] = x at hrg HU1 hnm hpa
      generalize ts[k]'hkt = t at HU1 hnm hpa hns hps HV2 HTK
      obtain ⟨nm, pa, ⟨rA, rn, rc⟩⟩ := x
      obtain ⟨tnm, tpa, trs⟩ := t
      simp only at hnm hpa hns hps HV2
      subst hnm hpa
      change Hid (RdRu w (.slice rA rn rc) trs) at HU1
      obtain ⟨rA', rc', hrs⟩ := HU1.out.shape
      have hrn : rn = trs.length := by injection hrs
      subst hrn
      clear hrs
      have hz := HB.out.size
      have HA1 : Hid (((wr.alloc (.cells #[.string ⟨#[]⟩, .string ⟨#[]⟩, .slice none 0 0] 46)).setRow wr.heap.size (tbC ⟨nm, pa, ⟨rA, trs.length, rc⟩⟩).toArray).heap[wr.heap.size]? = some (.cells (tbC ⟨nm, pa, ⟨rA, trs.length, rc⟩⟩).toArray 46)) := setRow_heap _ _ _ _ _ _ (heap_alloc_new wr _)
      have HB1 : Hid (Below w.heap.size w ((wr.alloc (.cells #[.string ⟨#[]⟩, .string ⟨#[]⟩, .slice none 0 0] 46)).setRow wr.heap.size (tbC ⟨nm, pa, ⟨rA, trs.length, rc⟩⟩).toArray)) := below_setRow (HB.out.alloc hz _) hz _
      have HN1 : Hid (Below wr.heap.size wr ((wr.alloc (.cells #[.string ⟨#[]⟩, .string ⟨#[]⟩, .slice none 0 0] 46)).setRow wr.heap.size (tbC ⟨nm, pa, ⟨rA, trs.length, rc⟩⟩).toArray)) := below_setRow ((Below.refl _ wr).alloc (Nat.le_refl _) _) (Nat.le_refl _) _
      go_upto_region 7 with (first
        | (refine wpList_load_mid rfl 46 (.tmp 18) rfl b (o + k * 3) rfl (tbC ⟨nm, pa, ⟨rA, trs.length, rc⟩⟩) _ hrg hu rfl (by rw [hi]; rfl) ?_)
        | (refine wpList_store_row rfl 46 (.tmp 5) (.tmp 19) rfl (wr.heap.size) (tbC ⟨nm, pa, ⟨rA, trs.length, rc⟩⟩).toArray rfl rfl 46 _ (heap_alloc_new wr _) (by rw [table_size]; rfl) rfl (tbC_oneA ⟨nm, pa, ⟨rA, trs.length, rc⟩⟩) ?_))
      have hg3 : wr.heap.size < ((wr.alloc (.cells #[.string ⟨#[]⟩, .string ⟨#[]⟩, .slice none 0 0] 46)).setRow wr.heap.size (tbC ⟨nm, pa, ⟨rA, trs.length, rc⟩⟩).toArray).heap.size := (Array.getElem?_eq_some_iff.1 HA1.out).1
      have HM1 : Hid (NameSet ((wr.alloc (.cells #[.string ⟨#[]⟩, .string ⟨#[]⟩, .slice none 0 0] 46)).setRow wr.heap.size (tbC ⟨nm, pa, ⟨rA, trs.length, rc⟩⟩).toArray) M k ((ts.take k).map fun t => t.nm.data.toList)) := Lib.hid (HM.out.same (HN1.out.block M HM.out.lt))
      have hMg : M < wr.heap.size := HM.out.lt
      clear HB hrg HN1 HM
      generalize wr.heap.size = g3 at HA1 HB1 hz hg3 HM1 hMg ⊢
      generalize (wr.alloc (.cells #[.string ⟨#[]⟩, .string ⟨#[]⟩, .slice none 0 0] 46)).setRow g3 (tbC ⟨nm, pa, ⟨rA, trs.length, rc⟩⟩).toArray = w2 at HA1 HB1 hg3 HM1 ⊢
      have q0 : w2.cell? ⟨g3, 0, none⟩ = some (.string nm) := by rw [cell_of_row _ _ _ _ _ _ HA1.out]; rfl
      have q1 : w2.cell? ⟨g3, 1, none⟩ = some (.string pa) := by rw [cell_of_row _ _ _ _ _ _ HA1.out]; rfl
      have q2 : w2.cell? ⟨g3, 2, none⟩ = some (.slice rA trs.length rc) := by rw [cell_of_row _ _ _ _ _ _ HA1.out]; rfl
      have HN1 := Lib.hid (fun w => isname_any nm w hns)
      have HN2 := Lib.hid (fun w => isname_any pa w hps)
      have hpe : (pa.toList != []) = !(pa.data.toList == []) := by rw [toList_eq_data]; rfl
      cases hb1 : nameL nm.data.toList with
      | false =>
        rw [hb1] at HN1
        have e0 : V = 4 := by rw [← HV2.out, if_pos (.inl hb1)]
        go_wp2_with (go_at_call_of 58 (Value.string nm); refine (HN1.out _).mono ?_; rintro e w' ⟨rfl, rfl⟩)
        rw [HRR.out, e0]
        exact ⟨rfl, HB1.out⟩
      | true =>
        rw [hb1] at HN1
        have hbad : Hid ((pa.data.toList ≠ [] ∧ nameL pa.data.toList = false) ∨ ¬ (pa.data.toList ≠ [] ∧ nameL pa.data.toList = false)) := Classical.em _
        rcases hbad.out with ⟨hp1, hp2⟩ | hgood
        · have tp : (pa.toList != []) = true := by rw [toList_eq_data]; exact bne_iff_ne.2 hp1
          have tp2 : pa.toList.isEmpty = false := by rw [toList_eq_data]; exact List.isEmpty_eq_false_iff.2 hp1
          rw [hp2] at HN2
          have e0 : V = 4 := by rw [← HV2.out, if_pos (.inr ⟨hp1, hp2⟩)]
          clear hp1 hpe
          go_wp2_with (first | (go_at_call_of 58 (Value.string nm); refine (HN1.out _).mono ?_; rintro e w' ⟨rfl, rfl⟩) | (go_at_call_of 58 (Value.string pa); refine (HN2.out _).mono ?_; rintro e w' ⟨rfl, rfl⟩))
          rw [HRR.out, e0]
          exact ⟨rfl, HB1.out⟩
        · have HV3 := Lib.hid (HV2.out)
          rw [if_neg (by rintro (e | e); exact Bool.noConfusion (e.symm.trans hb1); exact hgood e)] at HV3
          have HG : Hid (pa.data.toList = [] ∨ nameL pa.data.toList = true) := by
            by_cases e : pa.data.toList = []
            · exact .inl e
            · right
              cases e2 : nameL pa.data.toList with
              | true => rfl
              | false => exact absurd ⟨e, e2⟩ hgood
          clear hgood HV2 hbad
          simp only [Act.put]
          go_cut [34] (fun cv wx => cv = .bool false ∧ wx = w2)
          case first =>
            rcases HG.out with hp | hp
            · have tp : (pa.toList != []) = false := by rw [toList_eq_data, hp]; rfl
              have tp2 : pa.toList.isEmpty = true := by rw [toList_eq_data, hp]; rfl
              clear hp hpe
              go_wp2_with (go_at_call_of 58 (Value.string nm); refine (HN1.out _).mono ?_; rintro e w' ⟨rfl, rfl⟩)
              go_meet
              exact ⟨rfl, rfl⟩
            · rw [hp] at HN2
              by_cases hp0 : pa.data.toList = []
              · have tp : (pa.toList != []) = false := by rw [toList_eq_data, hp0]; rfl
                have tp2 : pa.toList.isEmpty = true := by rw [toList_eq_data, hp0]; rfl
                clear hp0 hp hpe
                go_wp2_with (go_at_call_of 58 (Value.string nm); refine (HN1.out _).mono ?_; rintro e w' ⟨rfl, rfl⟩)
                go_meet
                exact ⟨rfl, rfl⟩
              · have tp : (pa.toList != []) = true := by rw [toList_eq_data]; exact bne_iff_ne.2 hp0
                have tp2 : pa.toList.isEmpty = false := by rw [toList_eq_data]; exact List.isEmpty_eq_false_iff.2 hp0
                clear hp0 hp hpe
                go_wp2_with (first | (go_at_call_of 58 (Value.string nm); refine (HN1.out _).mono ?_; rintro e w' ⟨rfl, rfl⟩) | (go_at_call_of 58 (Value.string pa); refine (HN2.out _).mono ?_; rintro e w' ⟨rfl, rfl⟩))
                go_meet
                exact ⟨rfl, rfl⟩
          case rest =>
            obtain ⟨rfl, rfl⟩ := hcut
            have hlk := HM1.out.look nm hns
            have hany : ((ts.take k).map fun t => t.nm.data.toList).any (fun x => x == nm.data.toList) = (ts.take k).any (fun u => u.nm.data.toList == nm.data.toList) := by rw [List.any_map]; rfl
            rw [hany] at hlk
            have HV3' := HV3
            clear hany
            cases hhas : (ts.take k).any (fun u => u.nm.data.toList == nm.data.toList) with
            | true =>
              rw [hhas] at hlk
              have e0 : V = 5 := by rw [← HV3.out, if_pos hhas]
              go_wp2_with fail
              rw [HRR.out, e0]
              exact ⟨rfl, HB1.out⟩
            | false =>
            rw [hhas] at hlk
            have HV4 := HV3
            rw [if_neg (by rw [hhas]; exact Bool.false_ne_true)] at HV4
            obtain ⟨w3, hup, hns3, hgr⟩ := HM1.out.put nm hns (Nat.lt_of_le_of_lt hk (by unfold maxLen; omega))
            have HM3 : Hid (NameSet w3 M (k + 1) ((ts.take (k + 1)).map fun t => t.nm.data.toList)) := by
              show NameSet _ _ _ _
              rw [HTK.out, List.map_append]
              exact hns3
            have HBX : Hid (Below w.heap.size w w3) := Lib.hid (HB1.out.grown hgr HB1.out.size (fun i hi => by injection hi with hi; omega))
            have hb3 : w3.heap[g3]? = wc.heap[g3]? := hgr.block g3 hg3 (fun e => by injection e with e; omega)
            have y2 : w3.cell? ⟨g3, 2, none⟩ = some (.slice rA trs.length rc) := (World.cell?_of_block (w := wc) hb3).trans q2
            clear hns3 hgr hb3 HM1 HV3 HV3'
            go_upto_region 12 with fail
            clear hlk hup q0 q1 q2 HA1
            by_cases h32 : 32 < trs.length
            · have h32i : (32 : Int) < (trs.length : Int) := by omega
              have e0 : V = 3 := by rw [← HV4.out, if_pos h32]
              go_wp2_with fail
              rw [HRR.out, e0]
              exact ⟨rfl, HBX.out⟩
            have h32i : ¬ (32 : Int) < (trs.length : Int) := by omega
            rw [if_neg h32] at HV4
            obtain ⟨RV, HRV⟩ : ∃ RV, Hid (rulesV trs = RV) := ⟨_, rfl⟩
            rw [HRV.out] at HV4
            have hzx := HBX.out.size
            go_wp2_with fail
            obtain ⟨wo, HWO⟩ : ∃ wo, Hid (wo = w3) := ⟨w3, rfl⟩
            go_loopg [49] trs.length (fun gk jv wr => ∃ j : Nat, jv = .int .i64 j ∧ j ≤ trs.length ∧ Hid (rulesV (trs.drop j) = RV) ∧ Hid (Below w3.heap.size w3 wr) ∧ trs.length - j ≤ gk)
            case atStart => exact ⟨0, rfl, by omega, HRV.out, Below.refl _ _, by omega⟩
            case round =>
              clear HRV HWO
              obtain ⟨j, rfl, hj, HRV, HBI, hgk2⟩ := hrel
              have hzi := HBI.out.size
              have HBW : Hid (Below w.heap.size w wr) := Lib.hid (HBX.out.trans (HBI.out.mono hzx))
              by_cases hjl : j < trs.length
              · have hji : (j : Int) < (trs.length : Int) := by omega
                have hj0 : (0 : Int) ≤ (j : Int) := by omega
                obtain ⟨rxs, hrx, hrxl, hrxe⟩ := HU1.out
                obtain ⟨b2, o2, hA2, hb2, hc2⟩ := hrx.cells (by omega)
                subst hA2
                have hyk : rxs[j]? = some (rxs[j]'(by omega)) := List.getElem?_eq_getElem (by omega)
                have hrk : trs[j]? = some trs[j] := List.getElem?_eq_getElem hjl
                have hrg2 : wr.rangeAt b2 (o2 + j * 3) (ruC (rxs[j]'(by omega))) := fun i v hi => by
                  rw [Nat.add_assoc]
                  exact (HBW.out.cell (p := ⟨b2, o2 + (j * 3 + i), none⟩) hb2).trans (hc2 j _ i v hyk hi)
                obtain ⟨_, hbf, haf⟩ := hrxe j _ _ hyk hrk
                have HRV2 := Lib.hid (show rulesV (trs[j] :: trs.drop (j + 1)) = RV by rw [← List.drop_eq_getElem_cons hjl]; exact HRV.out)
                rw [rulesV_step] at HRV2
                have HF1 := Lib.hid hbf
                have HF2 := Lib.hid haf
                clear hc2 hyk hrk hbf haf hrxe hrx HRV
                generalize rxs[j]'(by omega) = y at hrg2 HF1 HF2
                generalize trs[j] = r at HF1 HF2 HRV2
                obtain ⟨yb, ⟨uA, un, uc⟩, ⟨tA, tn, tc⟩⟩ := y
                change Hid (RdE atC 34 w (.slice uA un uc) r.bf) at HF1
                change Hid (RdE atC 34 w (.slice tA tn tc) r.af) at HF2
                obtain ⟨uA', uc', hus, _⟩ := HF1.out.shape
                have hun : un = r.bf.length := by injection hus
                obtain ⟨tA', tc', hts, _⟩ := HF2.out.shape
                have htn : tn = r.af.length := by injection hts
                subst hun htn
                clear hus hts
                have HP1 := Lib.hid (fun (w' : World) (h : Below w.heap.size w w') => valid_any2 r.bf (.slice uA r.bf.length uc) w' (HF1.out.below h (Nat.le_refl _)))
                have HP2 := Lib.hid (fun (w' : World) (h : Below w.heap.size w w') => valid_any2 r.af (.slice tA r.af.length tc) w' (HF2.out.below h (Nat.le_refl _)))
                generalize validF r.bf = x1 at HP1 HRV2
                generalize validF r.af = x2 at HP2 HRV2
                have HQ : Hid (((wr.alloc (.cells #[.bool false, .slice none 0 0, .slice none 0 0] 30)).setRow wr.heap.size (ruC ⟨yb, ⟨uA, r.bf.length, uc⟩, ⟨tA, r.af.length, tc⟩⟩).toArray).heap[wr.heap.size]? = some (.cells (ruC ⟨yb, ⟨uA, r.bf.length, uc⟩, ⟨tA, r.af.length, tc⟩⟩).toArray 30)) := setRow_heap _ _ _ _ _ _ (heap_alloc_new wr _)
                have HNL0 : Hid (Below wr.heap.size wr ((wr.alloc (.cells #[.bool false, .slice none 0 0, .slice none 0 0] 30)).setRow wr.heap.size (ruC ⟨yb, ⟨uA, r.bf.length, uc⟩, ⟨tA, r.af.length, tc⟩⟩).toArray)) := below_setRow ((Below.refl _ wr).alloc (Nat.le_refl _) _) (Nat.le_refl _) _
                go_upto_region 17 with (first
                  | (refine wpList_load_mid rfl 30 (.tmp 51) rfl b2 (o2 + j * 3) rfl (ruC ⟨yb, ⟨uA, r.bf.length, uc⟩, ⟨tA, r.af.length, tc⟩⟩) _ hrg2 hur rfl (by rw [hir]; rfl) ?_)
                  | (refine wpList_store_row rfl 30 (.tmp 7) (.tmp 52) rfl (wr.heap.size) (ruC ⟨yb, ⟨uA, r.bf.length, uc⟩, ⟨tA, r.af.length, tc⟩⟩).toArray rfl rfl 30 _ (heap_alloc_new wr _) (by rw [hir]; rfl) rfl (ruC_oneA _) ?_))
                have hgq : wr.heap.size < ((wr.alloc (.cells #[.bool false, .slice none 0 0, .slice none 0 0] 30)).setRow wr.heap.size (ruC ⟨yb, ⟨uA, r.bf.length, uc⟩, ⟨tA, r.af.length, tc⟩⟩).toArray).heap.size := (Array.getElem?_eq_some_iff.1 HQ.out).1
                have HNL := HNL0
                have HBL : Hid (Below w.heap.size w ((wr.alloc (.cells #[.bool false, .slice none 0 0, .slice none 0 0] 30)).setRow wr.heap.size (ruC ⟨yb, ⟨uA, r.bf.length, uc⟩, ⟨tA, r.af.length, tc⟩⟩).toArray)) := Lib.hid (HBW.out.trans (HNL0.out.mono HBW.out.size))
                clear HNL0 hrg2
                generalize hq : wr.heap.size = q at HQ hgq HNL HBL ⊢
                generalize (wr.alloc (.cells #[.bool false, .slice none 0 0, .slice none 0 0] 30)).setRow q (ruC ⟨yb, ⟨uA, r.bf.length, uc⟩, ⟨tA, r.af.length, tc⟩⟩).toArray = w6 at HQ HNL HBL hgq ⊢
                rw [← hq] at HNL
                have p1 : w6.cell? ⟨q, 1, none⟩ = some (.slice uA r.bf.length uc) := by rw [cell_of_row _ _ _ _ _ _ HQ.out]; rfl
                have p2 : w6.cell? ⟨q, 2, none⟩ = some (.slice tA r.af.length tc) := by rw [cell_of_row _ _ _ _ _ _ HQ.out]; rfl
                by_cases hx1 : x1 ≠ 0
                · have t1 : (x1 != 0) = true := bne_iff_ne.2 hx1
                  have e1 : RV = x1 := by rw [← HRV2.out, if_pos hx1]
                  have e0 : V = x1 := by rw [← HV4.out, e1, if_pos hx1]
                  go_wp2_with (go_at_call_of 59 (Value.slice uA r.bf.length uc); refine (HP1.out _ HBL.out).mono ?_; rintro e w7 ⟨rfl, hb7⟩)
                  rw [HRR.out, e0]
                  exact ⟨rfl, HBL.out.trans (hb7.mono HBL.out.size)⟩
                have t1 : (x1 != 0) = false := by simpa using hx1
                rw [if_neg hx1] at HRV2
                by_cases hx2 : x2 ≠ 0
                · have t2 : (x2 != 0) = true := bne_iff_ne.2 hx2
                  have e1 : RV = x2 := by rw [← HRV2.out, if_pos hx2]
                  have e0 : V = x2 := by rw [← HV4.out, e1, if_pos hx2]
                  go_upto_region 18 with (go_at_call 59; refine (HP1.out _ HBL.out).mono ?_; rintro e w7 ⟨rfl, hb7⟩)
                  have HB7 := Lib.hid (HBL.out.trans (hb7.mono HBL.out.size))
                  have p3 : w7.cell? ⟨q, 2, none⟩ = some (.slice tA r.af.length tc) := (hb7.cell (p := ⟨q, 2, none⟩) hgq).trans p2
                  go_wp2_with (go_at_call 59; refine (HP2.out _ HB7.out).mono ?_; rintro e w8 ⟨rfl, hb8⟩)
                  rw [HRR.out, e0]
                  exact ⟨rfl, HB7.out.trans (hb8.mono HB7.out.size)⟩
                have t2 : (x2 != 0) = false := by simpa using hx2
                have HRV3 : Hid (rulesV (trs.drop (j + 1)) = RV) := by show _ = _; rw [← HRV2.out, if_neg hx2]
                go_upto_region 18 with (go_at_call 59; refine (HP1.out _ HBL.out).mono ?_; rintro e w7 ⟨rfl, hb7⟩)
                have HB7 := Lib.hid (HBL.out.trans (hb7.mono HBL.out.size))
                have p3 : w7.cell? ⟨q, 2, none⟩ = some (.slice tA r.af.length tc) := (hb7.cell (p := ⟨q, 2, none⟩) hgq).trans p2
                go_wp2_with (go_at_call 59; refine (HP2.out _ HB7.out).mono ?_; rintro e w8 ⟨rfl, hb8⟩)
                have HB8 : Hid (Below w3.heap.size w3 w8) := Lib.hid (HBI.out.trans ((HNL.out.trans ((hb7.mono HNL.out.size).trans (hb8.mono (Nat.le_trans HNL.out.size hb7.size)))).mono hzi))
                go_roundg (trs.length - (j + 1))
                case measure => omega
                case rel => exact ⟨j + 1, by go_num, by omega, HRV3.out, HB8.out, Nat.le_refl _⟩
              · obtain rfl : j = trs.length := by omega
                have hji : ¬ (trs.length : Int) < (trs.length : Int) := by omega
                have e1 : RV = 0 := by rw [← HRV.out, List.drop_eq_nil_of_le (Nat.le_refl _)]; rfl
                have HV6 : Hid (validGo (ts.take (k + 1)) (ts.drop (k + 1)) = V) := by
                  show _ = _
                  rw [HTK.out, ← HV4.out, e1, if_neg (by decide)]
                go_wp2_with fail
                go_roundg (xs.length - (k + 1))
                case measure => omega
                case rel => exact ⟨k + 1, by go_num, by omega, HV6.out, (HM3.out.same (HBI.out.block M HM3.out.lt)), HBW.out, Nat.le_refl _⟩
    · obtain rfl : k = xs.length := by omega
      have hki : ¬ (xs.length : Int) < (xs.length : Int) := by omega
      have e0 : V = 0 := by rw [← HV.out, List.drop_eq_nil_of_le (by omega)]; rfl
      go_wp2_with fail
      rw [HRR.out, e0]
      exact ⟨rfl, HB.out⟩


set_option maxRecDepth 100000 in
set_option maxHeartbeats 16000000 in
theorem rValidate_any (ts : List Tb) (v : Value) (w : World) (ht : RdTb w v ts) (hin : TbIn ts) :
    Calls Tryd.prog 24 #[v] w (IntRet w (validT ts)) := by
  obtain ⟨V, HV⟩ : ∃ V, Hid (V = validT ts) := ⟨_, rfl⟩
  rw [← HV.out]
  obtain ⟨R, HRR⟩ : ∃ R, Hid (R = IntRet w V) := ⟨_, rfl⟩
  rw [← HRR.out]
  have HT := Lib.hid ht
  obtain ⟨xs, hx0, hxl, hx⟩ := ht
  have hxa : xs.length ≤ ts.length := Nat.le_of_eq hxl
  have hxb : ts.length ≤ xs.length := Nat.le_of_eq hxl.symm
  rw [show v = v from rfl] at HT
  obtain ⟨A, c, hv, hlc, _⟩ := hx0.shape
  subst hv
  by_cases h16 : 16 < xs.length
  · have h16i : (16 : Int) < (xs.length : Int) := by omega
    have e0 : V = 3 := by rw [HV.out]; unfold validT; rw [if_pos (by omega)]
    go_enter Tryd.func24, Tryd.ntmps24
    go_wp2_with fail
    rw [HRR.out, e0]
    exact ⟨rfl, Below.refl _ _⟩
  have h16i : ¬ (16 : Int) < (xs.length : Int) := by omega
  have HV0 : Hid (validGo [] ts = V) := by show _ = _; rw [HV.out]; unfold validT; rw [if_neg (by omega)]
  have HX := Lib.hid hx0
  have HXR := Lib.hid hx
  have HIN := Lib.hid hin.2
  clear hx0 hx hxl HV hin
  have hu := Tryd.underlying46
  have hi : (Tryd.prog.info? 46).map (·.size) = some 3 := table_size
  have hur := Tryd.underlying30
  have hir : (Tryd.prog.info? 30).map (·.size) = some 3 := by kernel_rfl
  go_enter Tryd.func24, Tryd.ntmps24
  go_wp2_with fail
  have HB0 : Hid (Below w.heap.size w w) := Below.refl _ _
  obtain ⟨wo, HWO⟩ : ∃ wo, Hid (wo = w) := ⟨w, rfl⟩
  go_loopg [3, 13] xs.length (fun gk iv kv wr => ∃ k : Nat, kv = .int .i64 k ∧ k ≤ xs.length ∧ Hid (validGo (ts.take k) (ts.drop k) = V) ∧ Hid (Below w.heap.size w wr) ∧ xs.length - k ≤ gk)
  case atStart => exact ⟨0, rfl, by omega, HV0.out, HB0.out, by omega⟩
  case round =>
    clear HWO HV0 HB0 
    obtain ⟨k, rfl, hk, HV, HB, hgk⟩ := hrel
    by_cases hkl : k < xs.length
    · have hki : (k : Int) < (xs.length : Int) := by omega
      have hk0 : (0 : Int) ≤ (k : Int) := by omega
      obtain ⟨b, o, rfl, hbl, hcell⟩ := HX.out.cells (by omega)
      have hkt : k < ts.length := by omega
      have hxk : xs[k]? = some xs[k] := List.getElem?_eq_getElem hkl
      have htk : ts[k]? = some (ts[k]'hkt) := List.getElem?_eq_getElem hkt
      have hrg : wr.rangeAt b (o + k * 3) (tbC xs[k]) := fun j v hj => by
        rw [Nat.add_assoc]
        exact (HB.out.cell (p := ⟨b, o + (k * 3 + j), none⟩) hbl).trans (hcell k _ j v hxk hj)
      obtain ⟨hnm, hpa, hru⟩ := HXR.out k _ _ hxk htk
      obtain ⟨hns, hps⟩ := HIN.out _ (List.getElem_mem hkt)
      have HV2 := Lib.hid ((show validGo (ts.take k) (ts[k]'hkt :: ts.drop (k + 1)) = V by rw [← List.drop_eq_getElem_cons hkt]; exact HV.out))
      rw [validGo_step] at HV2
      have HTK : Hid (ts.take (k + 1) = ts.take k ++ [ts[k]'hkt]) := List.take_succ_eq_append_getElem hkt
      have HU1 := Lib.hid hru
      clear hcell hxk htk hru HV
      generalize xs[k] = x at hrg HU1 hnm hpa
      generalize ts[k]'hkt = t at HU1 hnm hpa hns hps HV2 HTK
      obtain ⟨nm, pa, ⟨rA, rn, rc⟩⟩ := x
      obtain ⟨tnm, tpa, trs⟩ := t
      simp only at hnm hpa hns hps HV2
      subst hnm hpa
      change Hid (RdRu w (.slice rA rn rc) trs) at HU1
      obtain ⟨rA', rc', hrs⟩ := HU1.out.shape
      have hrn : rn = trs.length := by injection hrs
      subst hrn
      clear hrs
      have hz := HB.out.size
      have HA1 : Hid (((wr.alloc (.cells #[.string ⟨#[]⟩, .string ⟨#[]⟩, .slice none 0 0] 46)).setRow wr.heap.size (tbC ⟨nm, pa, ⟨rA, trs.length, rc⟩⟩).toArray).heap[wr.heap.size]? = some (.cells (tbC ⟨nm, pa, ⟨rA, trs.length, rc⟩⟩).toArray 46)) := setRow_heap _ _ _ _ _ _ (heap_alloc_new wr _)
      have HB1 : Hid (Below w.heap.size w ((wr.alloc (.cells #[.string ⟨#[]⟩, .string ⟨#[]⟩, .slice none 0 0] 46)).setRow wr.heap.size (tbC ⟨nm, pa, ⟨rA, trs.length, rc⟩⟩).toArray)) := below_setRow (HB.out.alloc hz _) hz _
      have HN1 : Hid (Below wr.heap.size wr ((wr.alloc (.cells #[.string ⟨#[]⟩, .string ⟨#[]⟩, .slice none 0 0] 46)).setRow wr.heap.size (tbC ⟨nm, pa, ⟨rA, trs.length, rc⟩⟩).toArray)) := below_setRow ((Below.refl _ wr).alloc (Nat.le_refl _) _) (Nat.le_refl _) _
      go_upto_region 7 with (first
        | (refine wpList_load_mid rfl 46 (.tmp 18) rfl b (o + k * 3) rfl (tbC ⟨nm, pa, ⟨rA, trs.length, rc⟩⟩) _ hrg hu rfl (by rw [hi]; rfl) ?_)
        | (refine wpList_store_row rfl 46 (.tmp 4) (.tmp 19) rfl (wr.heap.size) (tbC ⟨nm, pa, ⟨rA, trs.length, rc⟩⟩).toArray rfl rfl 46 _ (heap_alloc_new wr _) (by rw [table_size]; rfl) rfl (tbC_oneA ⟨nm, pa, ⟨rA, trs.length, rc⟩⟩) ?_))
      have hg3 : wr.heap.size < ((wr.alloc (.cells #[.string ⟨#[]⟩, .string ⟨#[]⟩, .slice none 0 0] 46)).setRow wr.heap.size (tbC ⟨nm, pa, ⟨rA, trs.length, rc⟩⟩).toArray).heap.size := (Array.getElem?_eq_some_iff.1 HA1.out).1
      clear HB hrg HN1 
      generalize wr.heap.size = g3 at HA1 HB1 hz hg3  ⊢
      generalize (wr.alloc (.cells #[.string ⟨#[]⟩, .string ⟨#[]⟩, .slice none 0 0] 46)).setRow g3 (tbC ⟨nm, pa, ⟨rA, trs.length, rc⟩⟩).toArray = w2 at HA1 HB1 hg3  ⊢
      have q0 : w2.cell? ⟨g3, 0, none⟩ = some (.string nm) := by rw [cell_of_row _ _ _ _ _ _ HA1.out]; rfl
      have q1 : w2.cell? ⟨g3, 1, none⟩ = some (.string pa) := by rw [cell_of_row _ _ _ _ _ _ HA1.out]; rfl
      have q2 : w2.cell? ⟨g3, 2, none⟩ = some (.slice rA trs.length rc) := by rw [cell_of_row _ _ _ _ _ _ HA1.out]; rfl
      have HN1 := Lib.hid (fun w => risname_any nm w hns)
      have HN2 := Lib.hid (fun w => risname_any pa w hps)
      have hpe : (pa.toList != []) = !(pa.data.toList == []) := by rw [toList_eq_data]; rfl
      cases hb1 : nameL nm.data.toList with
      | false =>
        rw [hb1] at HN1
        have e0 : V = 4 := by rw [← HV2.out, if_pos (.inl hb1)]
        go_wp2_with (go_at_call_of 60 (Value.string nm); refine (HN1.out _).mono ?_; rintro e w' ⟨rfl, rfl⟩)
        rw [HRR.out, e0]
        exact ⟨rfl, HB1.out⟩
      | true =>
        rw [hb1] at HN1
        have hbad : Hid ((pa.data.toList ≠ [] ∧ nameL pa.data.toList = false) ∨ ¬ (pa.data.toList ≠ [] ∧ nameL pa.data.toList = false)) := Classical.em _
        rcases hbad.out with ⟨hp1, hp2⟩ | hgood
        · have tp : (pa.toList != []) = true := by rw [toList_eq_data]; exact bne_iff_ne.2 hp1
          have tp2 : pa.toList.isEmpty = false := by rw [toList_eq_data]; exact List.isEmpty_eq_false_iff.2 hp1
          rw [hp2] at HN2
          have e0 : V = 4 := by rw [← HV2.out, if_pos (.inr ⟨hp1, hp2⟩)]
          clear hp1 hpe
          go_wp2_with (first | (go_at_call_of 60 (Value.string nm); refine (HN1.out _).mono ?_; rintro e w' ⟨rfl, rfl⟩) | (go_at_call_of 60 (Value.string pa); refine (HN2.out _).mono ?_; rintro e w' ⟨rfl, rfl⟩))
          rw [HRR.out, e0]
          exact ⟨rfl, HB1.out⟩
        · have HV3 := Lib.hid (HV2.out)
          rw [if_neg (by rintro (e | e); exact Bool.noConfusion (e.symm.trans hb1); exact hgood e)] at HV3
          have HG : Hid (pa.data.toList = [] ∨ nameL pa.data.toList = true) := by
            by_cases e : pa.data.toList = []
            · exact .inl e
            · right
              cases e2 : nameL pa.data.toList with
              | true => rfl
              | false => exact absurd ⟨e, e2⟩ hgood
          clear hgood HV2 hbad
          simp only [Act.put]
          go_cut [34] (fun cv wx => cv = .bool false ∧ wx = w2)
          case first =>
            rcases HG.out with hp | hp
            · have tp : (pa.toList != []) = false := by rw [toList_eq_data, hp]; rfl
              have tp2 : pa.toList.isEmpty = true := by rw [toList_eq_data, hp]; rfl
              clear hp hpe
              go_wp2_with (go_at_call_of 60 (Value.string nm); refine (HN1.out _).mono ?_; rintro e w' ⟨rfl, rfl⟩)
              go_meet
              exact ⟨rfl, rfl⟩
            · rw [hp] at HN2
              by_cases hp0 : pa.data.toList = []
              · have tp : (pa.toList != []) = false := by rw [toList_eq_data, hp0]; rfl
                have tp2 : pa.toList.isEmpty = true := by rw [toList_eq_data, hp0]; rfl
                clear hp0 hp hpe
                go_wp2_with (go_at_call_of 60 (Value.string nm); refine (HN1.out _).mono ?_; rintro e w' ⟨rfl, rfl⟩)
                go_meet
                exact ⟨rfl, rfl⟩
              · have tp : (pa.toList != []) = true := by rw [toList_eq_data]; exact bne_iff_ne.2 hp0
                have tp2 : pa.toList.isEmpty = false := by rw [toList_eq_data]; exact List.isEmpty_eq_false_iff.2 hp0
                clear hp0 hp hpe
                go_wp2_with (first | (go_at_call_of 60 (Value.string nm); refine (HN1.out _).mono ?_; rintro e w' ⟨rfl, rfl⟩) | (go_at_call_of 60 (Value.string pa); refine (HN2.out _).mono ?_; rintro e w' ⟨rfl, rfl⟩))
                go_meet
                exact ⟨rfl, rfl⟩
          case rest =>
            obtain ⟨rfl, rfl⟩ := hcut
            have HNM := Lib.hid (fun (w' : World) (h : Below w.heap.size w w') => named_any (ts.take k) (.slice (some ⟨b, o, none⟩) k c) nm w' ((HT.out.take k (by omega)).below h (Nat.le_refl _)) (by rw [List.length_take]; omega))
            have HFA := Lib.hid (find_any_iff (ts.take k) nm 0)
            obtain ⟨fi, HFI⟩ : ∃ fi, Hid (fi = findF (ts.take k) nm 0) := ⟨_, rfl⟩
            rw [← HFI.out] at HNM HFA
            clear HFI
            have HSL : Hid (∀ w', (Instr.sliceAt 39 (.slice (some ⟨b, o, none⟩) xs.length c) none (some (.int .i64 (k : Int))) none).run Tryd.prog w' = .ok (.slice (some ⟨b, o, none⟩) k c) w') := fun w' => run_tables_to _ _ _ _ hk hlc w'
            by_cases hfi : 0 ≤ fi
            · have e0 : V = 5 := by rw [← HV3.out, if_pos (HFA.out.1 hfi)]
              have hge : decide (0 ≤ fi) = true := decide_eq_true hfi
              go_wp2_with fail
              refine wp_region_at 7 #[false, false, false, false, false, false, false] rfl rfl (by kernel_rfl) ?_
              refine wpAny_at (i := 0) (v := .slice (some ⟨b, o, none⟩) xs.length c) (some 35) rfl rfl (by kernel_rfl) (by kernel_rfl) (by kernel_rfl) (fun _ _ _ h => h) (by kernel_rfl) (fun _ => ex_move _ _ rfl (by kernel_rfl)) ?_
              simp only [Act.put, List.setIfInBounds_toArray, List.set_cons_zero, List.set_cons_succ]
              refine wpAny_at (i := 1) (v := .int .i64 (k : Int)) (some 36) rfl rfl (by kernel_rfl) (by kernel_rfl) (by kernel_rfl) (fun _ _ _ h => h) (by kernel_rfl) (fun _ => ex_move _ _ rfl (by kernel_rfl)) ?_
              simp only [Act.put, List.setIfInBounds_toArray, List.set_cons_zero, List.set_cons_succ]
              refine wpAny_at (i := 2) (v := .slice (some ⟨b, o, none⟩) k c) (some 37) rfl rfl (by kernel_rfl) (by kernel_rfl) (by kernel_rfl) (fun _ _ _ h => h) (by kernel_rfl) (fun _ => ex_slice 39 _ _ _ (.slice (some ⟨b, o, none⟩) xs.length c) _ none (some (.int .i64 (k : Int))) rfl (by kernel_rfl) (by kernel_rfl) (by kernel_rfl) (HSL.out _)) ?_
              simp only [Act.put, List.setIfInBounds_toArray, List.set_cons_zero, List.set_cons_succ]
              refine wpAny_at (i := 3) (v := .pointer (some ⟨g3, 0, none⟩)) (some 38) rfl rfl (by kernel_rfl) (by kernel_rfl) (by kernel_rfl) (fun _ _ _ h => h) (by kernel_rfl) (fun _ => ex_fieldAddr 46 _ 0 (.pointer (some ⟨g3, 0, none⟩)) _ rfl (by kernel_rfl) (by go_simp)) ?_
              simp only [Act.put, List.setIfInBounds_toArray, List.set_cons_zero, List.set_cons_succ]
              refine wpAny_val 4 (some 39) (.string nm) (by kernel_rfl) rfl rfl (by kernel_rfl) (ex_load 9 _ (.pointer (some ⟨g3, 0, none⟩)) _ rfl (by kernel_rfl) (ld_str0 (w := wc.drew) q0)) ?_
              simp only [Act.put, List.setIfInBounds_toArray, List.set_cons_zero, List.set_cons_succ]
              refine wpAny_call 5 (some 40) (by kernel_rfl) rfl rfl (by kernel_rfl) 61 (#[.slice (some ⟨b, o, none⟩) k c, .string nm]) (by go_simp) (HNM.out _ (below_drewN HB1.out 1)) ?_
              rintro e w5 ⟨rfl, hb5⟩
              refine ⟨_, rfl, ?_⟩
              have hx5 := (below_drewN (Below.refl wc.heap.size wc) 1).trans hb5
              simp only [Act.put, List.setIfInBounds_toArray, List.set_cons_zero, List.set_cons_succ]
              refine wpAny_at (i := 6) (v := .bool true) (some 41) rfl rfl (by kernel_rfl) (by kernel_rfl) (by kernel_rfl) (fun _ _ _ h => h) (by kernel_rfl) (fun _ => ex_binOp .geq 3 3 _ _ (.int .i64 fi) (.int .i64 0) _ rfl (by kernel_rfl) (by kernel_rfl) (by go_simp)) ?_
              simp only [Act.put, List.setIfInBounds_toArray, List.set_cons_zero, List.set_cons_succ]
              refine wpAny_done (by kernel_rfl) ?_ _
              go_wp2_with fail
              rw [HRR.out, e0]
              exact ⟨rfl, HB1.out.trans (hx5.mono HB1.out.size)⟩
            have HV4 := HV3
            rw [if_neg (fun h => hfi (HFA.out.2 h))] at HV4
            have hge : decide (0 ≤ fi) = false := decide_eq_false hfi
            go_wp2_with fail
            refine wp_region_at 7 #[false, false, false, false, false, false, false] rfl rfl (by kernel_rfl) ?_
            refine wpAny_at (i := 0) (v := .slice (some ⟨b, o, none⟩) xs.length c) (some 35) rfl rfl (by kernel_rfl) (by kernel_rfl) (by kernel_rfl) (fun _ _ _ h => h) (by kernel_rfl) (fun _ => ex_move _ _ rfl (by kernel_rfl)) ?_
            simp only [Act.put, List.setIfInBounds_toArray, List.set_cons_zero, List.set_cons_succ]
            refine wpAny_at (i := 1) (v := .int .i64 (k : Int)) (some 36) rfl rfl (by kernel_rfl) (by kernel_rfl) (by kernel_rfl) (fun _ _ _ h => h) (by kernel_rfl) (fun _ => ex_move _ _ rfl (by kernel_rfl)) ?_
            simp only [Act.put, List.setIfInBounds_toArray, List.set_cons_zero, List.set_cons_succ]
            refine wpAny_at (i := 2) (v := .slice (some ⟨b, o, none⟩) k c) (some 37) rfl rfl (by kernel_rfl) (by kernel_rfl) (by kernel_rfl) (fun _ _ _ h => h) (by kernel_rfl) (fun _ => ex_slice 39 _ _ _ (.slice (some ⟨b, o, none⟩) xs.length c) _ none (some (.int .i64 (k : Int))) rfl (by kernel_rfl) (by kernel_rfl) (by kernel_rfl) (HSL.out _)) ?_
            simp only [Act.put, List.setIfInBounds_toArray, List.set_cons_zero, List.set_cons_succ]
            refine wpAny_at (i := 3) (v := .pointer (some ⟨g3, 0, none⟩)) (some 38) rfl rfl (by kernel_rfl) (by kernel_rfl) (by kernel_rfl) (fun _ _ _ h => h) (by kernel_rfl) (fun _ => ex_fieldAddr 46 _ 0 (.pointer (some ⟨g3, 0, none⟩)) _ rfl (by kernel_rfl) (by go_simp)) ?_
            simp only [Act.put, List.setIfInBounds_toArray, List.set_cons_zero, List.set_cons_succ]
            refine wpAny_val 4 (some 39) (.string nm) (by kernel_rfl) rfl rfl (by kernel_rfl) (ex_load 9 _ (.pointer (some ⟨g3, 0, none⟩)) _ rfl (by kernel_rfl) (ld_str0 (w := wc.drew) q0)) ?_
            simp only [Act.put, List.setIfInBounds_toArray, List.set_cons_zero, List.set_cons_succ]
            refine wpAny_call 5 (some 40) (by kernel_rfl) rfl rfl (by kernel_rfl) 61 (#[.slice (some ⟨b, o, none⟩) k c, .string nm]) (by go_simp) (HNM.out _ (below_drewN HB1.out 1)) ?_
            rintro e w5 ⟨rfl, hb5⟩
            refine ⟨_, rfl, ?_⟩
            have hx5 := (below_drewN (Below.refl wc.heap.size wc) 1).trans hb5
            simp only [Act.put, List.setIfInBounds_toArray, List.set_cons_zero, List.set_cons_succ]
            refine wpAny_at (i := 6) (v := .bool false) (some 41) rfl rfl (by kernel_rfl) (by kernel_rfl) (by kernel_rfl) (fun _ _ _ h => h) (by kernel_rfl) (fun _ => ex_binOp .geq 3 3 _ _ (.int .i64 fi) (.int .i64 0) _ rfl (by kernel_rfl) (by kernel_rfl) (by go_simp)) ?_
            simp only [Act.put, List.setIfInBounds_toArray, List.set_cons_zero, List.set_cons_succ]
            refine wpAny_done (by kernel_rfl) ?_ _
            have HBX : Hid (Below w.heap.size w w5) := Lib.hid (HB1.out.trans (hx5.mono HB1.out.size))
            have y2 : w5.cell? ⟨g3, 2, none⟩ = some (.slice rA trs.length rc) := (hx5.cell (p := ⟨g3, 2, none⟩) hg3).trans q2
            have hg5 : g3 < w5.heap.size := Nat.lt_of_lt_of_le hg3 hx5.size
            clear HV3 q0 q1 q2 HA1 hb5 hx5
            go_upto_region 11 with fail
            by_cases h32 : 32 < trs.length
            · have h32i : (32 : Int) < (trs.length : Int) := by omega
              have e0 : V = 3 := by rw [← HV4.out, if_pos h32]
              go_wp2_with fail
              rw [HRR.out, e0]
              exact ⟨rfl, HBX.out⟩
            have h32i : ¬ (32 : Int) < (trs.length : Int) := by omega
            rw [if_neg h32] at HV4
            obtain ⟨RV, HRV⟩ : ∃ RV, Hid (rulesV trs = RV) := ⟨_, rfl⟩
            rw [HRV.out] at HV4
            have hzx := HBX.out.size
            go_wp2_with fail
            obtain ⟨wo, HWO⟩ : ∃ wo, Hid (wo = w5) := ⟨w5, rfl⟩
            go_loopg [5, 49] trs.length (fun gk iv jv wr => ∃ j : Nat, jv = .int .i64 j ∧ j ≤ trs.length ∧ Hid (rulesV (trs.drop j) = RV) ∧ Hid (Below w5.heap.size w5 wr) ∧ trs.length - j ≤ gk)
            case atStart => exact ⟨0, rfl, by omega, HRV.out, Below.refl _ _, by omega⟩
            case round =>
              clear HRV HWO
              obtain ⟨j, rfl, hj, HRV, HBI, hgk2⟩ := hrel
              have hzi := HBI.out.size
              have HBW : Hid (Below w.heap.size w wr) := Lib.hid (HBX.out.trans (HBI.out.mono hzx))
              by_cases hjl : j < trs.length
              · have hji : (j : Int) < (trs.length : Int) := by omega
                have hj0 : (0 : Int) ≤ (j : Int) := by omega
                obtain ⟨rxs, hrx, hrxl, hrxe⟩ := HU1.out
                obtain ⟨b2, o2, hA2, hb2, hc2⟩ := hrx.cells (by omega)
                subst hA2
                have hyk : rxs[j]? = some (rxs[j]'(by omega)) := List.getElem?_eq_getElem (by omega)
                have hrk : trs[j]? = some trs[j] := List.getElem?_eq_getElem hjl
                have hrg2 : wr.rangeAt b2 (o2 + j * 3) (ruC (rxs[j]'(by omega))) := fun i v hi => by
                  rw [Nat.add_assoc]
                  exact (HBW.out.cell (p := ⟨b2, o2 + (j * 3 + i), none⟩) hb2).trans (hc2 j _ i v hyk hi)
                obtain ⟨_, hbf, haf⟩ := hrxe j _ _ hyk hrk
                have HRV2 := Lib.hid (show rulesV (trs[j] :: trs.drop (j + 1)) = RV by rw [← List.drop_eq_getElem_cons hjl]; exact HRV.out)
                rw [rulesV_step] at HRV2
                have HF1 := Lib.hid hbf
                have HF2 := Lib.hid haf
                clear hc2 hyk hrk hbf haf hrxe hrx HRV
                generalize rxs[j]'(by omega) = y at hrg2 HF1 HF2
                generalize trs[j] = r at HF1 HF2 HRV2
                obtain ⟨yb, ⟨uA, un, uc⟩, ⟨tA, tn, tc⟩⟩ := y
                change Hid (RdE atC 34 w (.slice uA un uc) r.bf) at HF1
                change Hid (RdE atC 34 w (.slice tA tn tc) r.af) at HF2
                obtain ⟨uA', uc', hus, _⟩ := HF1.out.shape
                have hun : un = r.bf.length := by injection hus
                obtain ⟨tA', tc', hts, _⟩ := HF2.out.shape
                have htn : tn = r.af.length := by injection hts
                subst hun htn
                clear hus hts
                have HP1 := Lib.hid (fun (w' : World) (h : Below w.heap.size w w') => rvalid_any2 r.bf (.slice uA r.bf.length uc) w' (HF1.out.below h (Nat.le_refl _)))
                have HP2 := Lib.hid (fun (w' : World) (h : Below w.heap.size w w') => rvalid_any2 r.af (.slice tA r.af.length tc) w' (HF2.out.below h (Nat.le_refl _)))
                generalize validF r.bf = x1 at HP1 HRV2
                generalize validF r.af = x2 at HP2 HRV2
                have p1 : wr.cell? ⟨b2, o2 + j * 3 + 1, none⟩ = some (.slice uA r.bf.length uc) := hrg2 1 _ rfl
                have p2 : wr.cell? ⟨b2, o2 + j * 3 + 2, none⟩ = some (.slice tA r.af.length tc) := hrg2 2 _ rfl
                have p0 : wr.cell? ⟨g3, 2, none⟩ = some (.slice (some ⟨b2, o2, none⟩) trs.length rc) := (HBI.out.cell (p := ⟨g3, 2, none⟩) hg5).trans y2
                have HNL : Hid (Below wr.heap.size wr wr) := Below.refl _ _
                have HBL := HBW
                have hb2w : b2 < wr.heap.size := Nat.lt_of_lt_of_le hb2 HBW.out.size
                have hg3w : g3 < wr.heap.size := Nat.lt_of_lt_of_le hg5 hzi
                clear hrg2
                by_cases hx1 : x1 ≠ 0
                · have t1 : (x1 != 0) = true := bne_iff_ne.2 hx1
                  have e1 : RV = x1 := by rw [← HRV2.out, if_pos hx1]
                  have e0 : V = x1 := by rw [← HV4.out, e1, if_pos hx1]
                  go_wp2_with (go_at_call_of 62 (Value.slice uA r.bf.length uc); refine (HP1.out _ HBL.out).mono ?_; rintro e w7 ⟨rfl, hb7⟩)
                  rw [HRR.out, e0]
                  exact ⟨rfl, HBL.out.trans (hb7.mono HBL.out.size)⟩
                have t1 : (x1 != 0) = false := by simpa using hx1
                rw [if_neg hx1] at HRV2
                by_cases hx2 : x2 ≠ 0
                · have t2 : (x2 != 0) = true := bne_iff_ne.2 hx2
                  have e1 : RV = x2 := by rw [← HRV2.out, if_pos hx2]
                  have e0 : V = x2 := by rw [← HV4.out, e1, if_pos hx2]
                  go_upto_region 17 with (go_at_call 62; refine (HP1.out _ HBL.out).mono ?_; rintro e w7 ⟨rfl, hb7⟩)
                  have HB7 := Lib.hid (HBL.out.trans (hb7.mono HBL.out.size))
                  have p3 : w7.cell? ⟨b2, o2 + j * 3 + 2, none⟩ = some (.slice tA r.af.length tc) := (hb7.cell (p := ⟨b2, o2 + j * 3 + 2, none⟩) hb2w).trans p2
                  have p4 : w7.cell? ⟨g3, 2, none⟩ = some (.slice (some ⟨b2, o2, none⟩) trs.length rc) := (hb7.cell (p := ⟨g3, 2, none⟩) hg3w).trans p0
                  go_wp2_with (go_at_call 62; refine (HP2.out _ HB7.out).mono ?_; rintro e w8 ⟨rfl, hb8⟩)
                  rw [HRR.out, e0]
                  exact ⟨rfl, HB7.out.trans (hb8.mono HB7.out.size)⟩
                have t2 : (x2 != 0) = false := by simpa using hx2
                have HRV3 : Hid (rulesV (trs.drop (j + 1)) = RV) := by show _ = _; rw [← HRV2.out, if_neg hx2]
                go_upto_region 17 with (go_at_call 62; refine (HP1.out _ HBL.out).mono ?_; rintro e w7 ⟨rfl, hb7⟩)
                have HB7 := Lib.hid (HBL.out.trans (hb7.mono HBL.out.size))
                have p3 : w7.cell? ⟨b2, o2 + j * 3 + 2, none⟩ = some (.slice tA r.af.length tc) := (hb7.cell (p := ⟨b2, o2 + j * 3 + 2, none⟩) hb2w).trans p2
                have p4 : w7.cell? ⟨g3, 2, none⟩ = some (.slice (some ⟨b2, o2, none⟩) trs.length rc) := (hb7.cell (p := ⟨g3, 2, none⟩) hg3w).trans p0
                go_wp2_with (go_at_call 62; refine (HP2.out _ HB7.out).mono ?_; rintro e w8 ⟨rfl, hb8⟩)
                have HB8 : Hid (Below w5.heap.size w5 w8) := Lib.hid (HBI.out.trans ((HNL.out.trans ((hb7.mono HNL.out.size).trans (hb8.mono (Nat.le_trans HNL.out.size hb7.size)))).mono hzi))
                go_roundg (trs.length - (j + 1))
                case measure => omega
                case rel => exact ⟨j + 1, by go_num, by omega, HRV3.out, HB8.out, Nat.le_refl _⟩
              · obtain rfl : j = trs.length := by omega
                have hji : ¬ (trs.length : Int) < (trs.length : Int) := by omega
                have e1 : RV = 0 := by rw [← HRV.out, List.drop_eq_nil_of_le (Nat.le_refl _)]; rfl
                have HV6 : Hid (validGo (ts.take (k + 1)) (ts.drop (k + 1)) = V) := by
                  show _ = _
                  rw [HTK.out, ← HV4.out, e1, if_neg (by decide)]
                go_wp2_with fail
                go_roundg (xs.length - (k + 1))
                case measure => omega
                case rel => exact ⟨k + 1, by go_num, by omega, HV6.out,  HBW.out, Nat.le_refl _⟩
    · obtain rfl : k = xs.length := by omega
      have hki : ¬ (xs.length : Int) < (xs.length : Int) := by omega
      have e0 : V = 0 := by rw [← HV.out, List.drop_eq_nil_of_le (by omega)]; rfl
      go_wp2_with fail
      rw [HRR.out, e0]
      exact ⟨rfl, HB.out⟩


end Go.Proofs.YtpboaadjbkaidaaDoor

namespace Go.Proofs.YtpboaadjbkaidaaDoor
set_option maxRecDepth 100000
open Go.RowKit

theorem RS.butR {eR : TypeId} {X : List Nat} {g B : Nat} {w w' : World} {v : Value} {rs : List Ru} {ys : List RuV} (h : RS eR X B w v rs ys) (hg : g ∈ X) (hb : But g w w') : RS eR X B w' v rs ys :=
  h.keep hb.size fun b hlt hX => hb.block b hlt (fun e => hX (by rw [e]; exact hg))
/-- Made rules read the same as long as only old blocks change. -/
theorem RS.keepRd {eR : TypeId} {X Y : List Nat} {B : Nat} {w : World} {v : Value} {rs : List Ru} {ys : List RuV} (h : RS eR X B w v rs ys) (hY : ∀ b ∈ Y, b ∈ X) : Keep Y w fun u => RdRu u v rs := by
  have h1 := OwnE.keepX (X := Y) ruC_len h.own (fun b hb => .inl (h.below b (hY b hb)))
  intro u hu hk
  refine ⟨ys, h1 u hu hk, h.len, fun i y r hy hr => ?_⟩
  have h2 := h.each i y r hy hr
  have h3 := (h2.2.mono (fun b hb => List.mem_append_left _ (hY b hb))) u hu hk
  exact ⟨h2.1, h3.1, h3.2⟩
/-- A call that makes rules out of numbers. -/
def RulesRetN (L : List Int) (g : Nat) (r : List Ru × Nat) (w : World) (e : Ending) (w' : World) : Prop :=
  ∃ v ys, e = .returned v ∧ RS 30 (List.range w.heap.size) w.heap.size w' v r.1 ys ∧ But g w w' ∧ Nums w' g L r.2

set_option maxRecDepth 100000 in
set_option maxHeartbeats 4000000 in
theorem rulesN_any (L : List Int) (g N n : Nat) (w : World) (hnum : Nums w g L N) (hN : N ≤ 100000) (hn : n ≤ 100) :
    Calls Tryd.prog 64 #[.pointer (some ⟨g, 0, none⟩), .int .i64 n] w (RulesRetN L g (rulesM L N n) w) := by
  obtain ⟨R, HRR⟩ : ∃ R, Hid (R = RulesRetN L g (rulesM L N n) w) := ⟨_, rfl⟩
  rw [← HRR.out]
  obtain ⟨TT, HTT⟩ : ∃ TT, Hid (rulesGo L (nextN L N ((n : Int) + 1)).toNat (N + 1) [] = TT) := ⟨_, rfl⟩
  have HTR : Hid (R = RulesRetN L g TT w) := by
    show _ = _
    rw [HRR.out, ← HTT.out]
    rfl
  clear HRR
  have hg0 := hnum.lt
  have hgm : g ∈ List.range w.heap.size := List.mem_range.2 hg0
  have hz := nextN_bd L N (n + 1) (by omega)
  have HNU := Lib.hid hnum
  clear hnum
  go_enter Tryd.func64, Tryd.ntmps64
  go_upto_region 3 with (go_at_call 63; refine (next_any' L g N ((n : Int) + 1) _ (by exact HNU.out) (by omega) (by omega) (by omega)).mono ?_; rintro e w1 ⟨rfl, hb1, hn1⟩)
  generalize nextN L N ((n : Int) + 1) = z at hz hn1 HTT ⊢
  obtain ⟨z', rfl⟩ : ∃ z' : Nat, z = (z' : Int) := ⟨z.toNat, by omega⟩
  rw [Int.toNat_natCast] at HTT
  have HB1 := Lib.hid hb1
  have HN1 := Lib.hid hn1
  clear hb1 hn1 HNU
  go_loopg [5, 6] z' (fun m pv iv wr => ∃ (rs : List Ru) (ys : List RuV) (i M : Nat), iv = .int .i64 i ∧ Hid (RS 30 (List.range w.heap.size) w.heap.size wr pv rs ys) ∧ Hid (But g w wr) ∧ Hid (Nums wr g L M) ∧ rs.length + i ≤ n ∧ M + 43 * i ≤ N + 1 + 43 * n ∧ Hid (rulesGo L i M rs = TT) ∧ i ≤ m)
  case atStart => exact ⟨[], [], z', N + 1, rfl, RS.start (fun b hb => List.mem_range.1 hb), HB1.out, HN1.out, by simp; omega, by omega, HTT.out, Nat.le_refl _⟩
  case round =>
    clear HB1 HN1 HTT
    obtain ⟨rs, ys, i, M, rfl, HO, HB, HNU, hpi, hM, HV, hgk⟩ := hrel
    by_cases hi0 : 0 < i
    · have hi0i : (0 : Int) < (i : Int) := by omega
      obtain ⟨A, cA, hpv⟩ := own_shape HO.out.own
      subst hpv
      have hlen := HO.out.len
      have hlen2 : ys.length + i ≤ n := by omega
      clear hlen
      have HV2 : Hid (rulesGo L (i - 1) (ruleN L M) (rs ++ [ruleM L M]) = TT) := by
        show _ = _
        rw [← HV.out]
        obtain ⟨i', rfl⟩ : ∃ i', i = i' + 1 := ⟨i - 1, by omega⟩
        rfl
      clear HV
      have hNN := ruleN_bd L M
      have HRU : Hid (ruleM L M = ⟨decide (0 < nextN L M 3), (atomsM L (M + 1) 2).1, (atomsM L (atomsM L (M + 1) 2).2 2).1⟩ ∧ ruleN L M = (atomsM L (atomsM L (M + 1) 2).2 2).2) := Lib.hid ⟨rfl, rfl⟩
      generalize ruleM L M = rm at HRU HV2
      generalize ruleN L M = rn at HRU HV2 hNN
      have hz1 := nextN_bd L M 3 (by decide)
      have HC1 := Lib.hid (fun w h => next_any' L g M 3 w h (by omega) (by decide) (by decide))
      have hba := atomsM_bd L (M + 1) 2 (by decide)
      have hM2 : (atomsM L (M + 1) 2).2 ≤ 1000000 := by
        have := hba.2.1
        have e : (2 : Int).toNat = 2 := rfl
        rw [e] at this
        omega
      have HC2 := Lib.hid (fun w h => atomsM_any L g (M + 1) 2 w h (by omega) (by decide))
      have HC3 := Lib.hid (fun w h => atomsM_any L g (atomsM L (M + 1) 2).2 2 w h hM2 (by decide))
      have hla := hba.1
      have hlb := (atomsM_bd L (atomsM L (M + 1) 2).2 2 (by decide)).1
      clear hba hM2
      change Hid (∀ w (h : Nums w g L (M + 1)), Calls _ _ _ w (AtomsRetM L g (atomsM L (M + 1) 2) w)) at HC2
      change Hid (∀ w (h : Nums w g L (atomsM L (M + 1) 2).2), Calls _ _ _ w (AtomsRetM L g (atomsM L (atomsM L (M + 1) 2).2 2) w)) at HC3
      generalize atomsM L (atomsM L (M + 1) 2).2 2 = s2 at HRU HC3 hlb
      generalize atomsM L (M + 1) 2 = s1 at HRU HC2 HC3 hla
      obtain ⟨p1, M1⟩ := s1
      obtain ⟨p2, M2⟩ := s2
      obtain ⟨rfl, hrn⟩ := HRU.out
      clear HRU
      simp only at hrn hla hlb HC3
      subst hrn
      generalize nextN L M 3 = z1 at hz1 HC1 HV2
      go_upto_region 4 with (first
        | (go_at_call 63; refine (HC1.out _ HNU.out).mono ?_; rintro e w2 ⟨rfl, hb2, hn2⟩)
        | (go_at_call 90; refine (HC2.out _ hn2).mono ?_; rintro e w3 ⟨v3, rfl, ho3, hb3, hn3⟩; obtain ⟨A3, c3, hv3⟩ := own_shape ho3; subst hv3)
        | (go_at_call 90; refine (HC3.out _ hn3).mono ?_; rintro e w4 ⟨v4, rfl, ho4, hb4, hn4⟩; obtain ⟨A4, c4, hv4⟩ := own_shape ho4; subst hv4; have HK5 := Lib.hid ((((HO.out.butR hgm hb2).butR hgm hb3).butR hgm hb4).alloc (.cells (ruC ⟨decide (0 < z1), ⟨A3, p1.length, c3⟩, ⟨A4, p2.length, c4⟩⟩).toArray 30)); have hws := hb4.size; have hbs := HB.out.size; have hw3 := hb3.size; have hw2 := hb2.size)
        | (refine wpList_appAt rfl (.tmp 15) (.tmp 24) 31 30 rfl Tryd.underlying31 _ ruC 3 56 rule_info rfl (by decide) ruC_len ruC_one w.heap.size (.slice A ys.length cA) ys rfl (HK5.out.own) (.slice (some ⟨w4.heap.size, 0, none⟩) 1 1) [⟨decide (0 < z1), ⟨A3, p1.length, c3⟩, ⟨A4, p2.length, c4⟩⟩] rfl (rdE_one_at ruC 3 ruC_len w4 _ rfl ⟨decide (0 < z1), ⟨A3, p1.length, c3⟩, ⟨A4, p2.length, c4⟩⟩ 30) (by simp only [List.length_singleton]; omega) (by decide) (by simp; omega) ?_; intro v7 w7 hown7 hbel7 hgr7 hat7))
      have HX : Hid (∀ b ∈ List.range w.heap.size ++ blkL (.slice A ys.length cA), b < wr.heap.size) := fun b hb => by
        rcases List.mem_append.1 hb with hb | hb
        · have := List.mem_range.1 hb; omega
        · exact (HO.out.own.lt b (mem_blkL.1 hb)).2
      have hk3 : Keep (List.range w.heap.size ++ blkL (.slice A ys.length cA)) w4 fun u => RdE atC 34 u (.slice A3 p1.length c3) p1 :=
        (OwnE.keepX atC_len ho3 (fun b hb => .inl (by have := HX.out b hb; omega))).step hb4.size fun b hlt hX => ⟨hb4.block b hlt (fun e => hX (by rw [e]; exact List.mem_append_left _ hgm)), hX⟩
      have hk4 : Keep (List.range w.heap.size ++ blkL (.slice A ys.length cA)) w4 fun u => RdE atC 34 u (.slice A4 p2.length c4) p2 :=
        OwnE.keepX atC_len ho4 (fun b hb => .inl (by have := HX.out b hb; omega))
      have hk5 := (hk3.and hk4).step (w' := w4.alloc (.cells (ruC ⟨decide (0 < z1), ⟨A3, p1.length, c3⟩, ⟨A4, p2.length, c4⟩⟩).toArray 30)) (by simp) (fun b hlt hX => ⟨Below.heap_alloc w4 _ b hlt, hX⟩)
      have HP7 : Hid (RS 30 (List.range w.heap.size) w.heap.size w7 v7 (rs ++ [⟨decide (0 < z1), p1, p2⟩]) (ys ++ [⟨decide (0 < z1), ⟨A3, p1.length, c3⟩, ⟨A4, p2.length, c4⟩⟩])) :=
        HK5.out.push (by simp; omega) ⟨decide (0 < z1), p1, p2⟩ ⟨decide (0 < z1), ⟨A3, p1.length, c3⟩, ⟨A4, p2.length, c4⟩⟩ rfl hk5 hown7 hgr7 hat7
      have hbn := hbel7 w.heap.size (w4.alloc (.cells (ruC ⟨decide (0 < z1), ⟨A3, p1.length, c3⟩, ⟨A4, p2.length, c4⟩⟩).toArray 30)) (Nat.le_refl _) (Below.refl _ _)
      have hbn2 := ((Below.refl w.heap.size w4).alloc (by omega) (.cells (ruC ⟨decide (0 < z1), ⟨A3, p1.length, c3⟩, ⟨A4, p2.length, c4⟩⟩).toArray 30)).trans hbn
      have HB7 : Hid (But g w w7) := (((HB.out.trans hb2).trans hb3).trans hb4).bel hbn2 (by omega)
      have HN7 : Hid (Nums w7 g L rn) := nums_keep hn4 hbn2 hg0
      obtain ⟨A7, c7, hv7⟩ := own_shape hown7
      subst hv7
      clear hown7 hbel7 hgr7 hat7 hbn hbn2 HK5 hk3 hk4 hk5 HX ho3 ho4 hb2 hb3 hb4 hn2 hn3 hn4 HB HNU HO HC1 HC2 HC3
      go_wp2_with fail
      go_roundg (i - 1)
      case measure => omega
      case rel => exact ⟨rs ++ [Ru.mk (decide (0 < z1)) p1 p2], ys ++ [RuV.mk (decide (0 < z1)) ⟨A3, p1.length, c3⟩ ⟨A4, p2.length, c4⟩], i - 1, rn, by (show Value.int .i64 _ = Value.int .i64 _); congr 1; omega, HP7.out, HB7.out, HN7.out, by simp; omega, by omega, HV2.out, by omega⟩
    · obtain rfl : i = 0 := by omega
      go_wp2_with fail
      have e : TT = (rs, M) := HV.out.symm
      rw [HTR.out, e]
      exact ⟨_, ys, rfl, HO.out, HB.out, HNU.out⟩


end Go.Proofs.YtpboaadjbkaidaaDoor

namespace Go.Proofs.YtpboaadjbkaidaaDoor
set_option maxRecDepth 100000
open Go.RowKit

section
variable {P : Program} {ops : Array Oper} {w : World} {a : Act} {o : Oper}
theorem wp_of_valw {o : Oper} {v : Value} {w2 : World} {K : Act → World → Prop} {QE : Exit → Act → World → Prop} (hv : (execOp a.eval o).run P w = .ok (.value v) w2) (h : K (a.put o.dst v) w2) : Oper.wp P o a w K QE := by
  show Oper.upon _ _ _ _ _ _
  rw [hv]
  exact h
theorem wpAny_valw {md : Region.Mode} {QE : Exit → Act → World → Prop} (i : Nat) (d : Option Tmp) (v : Value) (w2 : World) {oi : Oper} {fuel : Nat} {listed : Array Bool} {rs : List Oper} (hr : Region.ready md ops listed = [i]) (hi : ops.toList.drop i = oi :: rs) (hd : oi.dst = d) (hw : Region.wanted oi (yielded ops a.tmps) = true)
    (hv : (execOp a.eval oi).run P w = .ok (.value v) w2) (h : wpAny P md ops QE fuel (listed.setIfInBounds i true) (a.put d v) w2) : wpAny P md ops QE (fuel + 1) listed a w := by
  subst hd
  exact wpAny_only i hr hi hw (wp_of_valw hv h)
theorem wpAny_ops2 {md : Region.Mode} {QE : Exit → Act → World → Prop} (i j : Nat) {oi oj : Oper} {fuel : Nat} {listed : Array Bool} {r1 r2 : List Oper} (hr : Region.ready md ops listed = [i, j]) (hi : ops.toList.drop i = oi :: r1) (hj : ops.toList.drop j = oj :: r2)
    (hwi : Region.wanted oi (yielded ops a.tmps) = true) (hwj : Region.wanted oj (yielded ops a.tmps) = true)
    (h1 : Oper.wp P oi a w (wpAny P md ops QE fuel (listed.setIfInBounds i true)) QE) (h2 : Oper.wp P oj a w (wpAny P md ops QE fuel (listed.setIfInBounds j true)) QE) : wpAny P md ops QE (fuel + 1) listed a w :=
  wpAny_ready hr (by simp) (AllReady.cons (at_drop hi) (fun K hK => by rw [if_pos hwi]; exact Oper.wp_mono hK h1) (AllReady.cons (at_drop hj) (fun K hK => by rw [if_pos hwj]; exact Oper.wp_mono hK h2) AllReady.nil))
theorem wpAny_ops3 {md : Region.Mode} {QE : Exit → Act → World → Prop} (i j k : Nat) {oi oj ok : Oper} {fuel : Nat} {listed : Array Bool} {r1 r2 r3 : List Oper} (hr : Region.ready md ops listed = [i, j, k]) (hi : ops.toList.drop i = oi :: r1) (hj : ops.toList.drop j = oj :: r2) (hk : ops.toList.drop k = ok :: r3)
    (hwi : Region.wanted oi (yielded ops a.tmps) = true) (hwj : Region.wanted oj (yielded ops a.tmps) = true) (hwk : Region.wanted ok (yielded ops a.tmps) = true)
    (h1 : Oper.wp P oi a w (wpAny P md ops QE fuel (listed.setIfInBounds i true)) QE) (h2 : Oper.wp P oj a w (wpAny P md ops QE fuel (listed.setIfInBounds j true)) QE) (h3 : Oper.wp P ok a w (wpAny P md ops QE fuel (listed.setIfInBounds k true)) QE) : wpAny P md ops QE (fuel + 1) listed a w :=
  wpAny_ready hr (by simp) (AllReady.cons (at_drop hi) (fun K hK => by rw [if_pos hwi]; exact Oper.wp_mono hK h1) (AllReady.cons (at_drop hj) (fun K hK => by rw [if_pos hwj]; exact Oper.wp_mono hK h2) (AllReady.cons (at_drop hk) (fun K hK => by rw [if_pos hwk]; exact Oper.wp_mono hK h3) AllReady.nil)))
/-- A load (i), a call (j), an alloc (k): any order; a pure operation (b) on what the load and the call give. The load reads the same in each world on the way. -/
theorem wpAny_lcab {md : Region.Mode} {QE : Exit → Act → World → Prop} (i j k b : Nat) (d e f s : Tmp) (v : Value) (vb : Value → Value) (ob : Obj) {oi oj ok ox : Oper} {fuel : Nat} {listed L : Array Bool} {r1 r2 r3 r4 : List Oper} (fn : FuncId) (vs : Array Value) {Post1 Post2 : Ending → World → Prop}
    (hns : Region.noSelect ops = true) (hr : Region.ready md ops listed = [i, j, k]) (hri : Region.ready md ops (listed.setIfInBounds i true) = [j, k]) (hrj : Region.ready md ops (listed.setIfInBounds j true) = [i, k]) (hrk : Region.ready md ops (listed.setIfInBounds k true) = [i, j])
    (hfij : Region.free md ops ((listed.setIfInBounds i true).setIfInBounds j true) b = true) (hrij : (Region.ready md ops ((listed.setIfInBounds i true).setIfInBounds j true)).contains b = true) (hrijb : Region.ready md ops (((listed.setIfInBounds i true).setIfInBounds j true).setIfInBounds b true) = [k])
    (hrik : Region.ready md ops ((listed.setIfInBounds i true).setIfInBounds k true) = [j]) (hrjk : Region.ready md ops ((listed.setIfInBounds j true).setIfInBounds k true) = [i])
    (hrijk : Region.ready md ops (((listed.setIfInBounds i true).setIfInBounds j true).setIfInBounds k true) = [b])
    (hi : ops.toList.drop i = oi :: r1) (hj : ops.toList.drop j = oj :: r2) (hk : ops.toList.drop k = ok :: r3) (hb : ops.toList.drop b = ox :: r4) (hd : oi.dst = some d) (he : oj.dst = some e) (hf : ok.dst = some f) (hs : ox.dst = some s) (hde : d ≠ e) (hdf : d ≠ f) (hef : e ≠ f) (hsf : s ≠ f) (hij : i ≠ j) (hik : i ≠ k) (hjk : j ≠ k) (hkb : k ≠ b)
    (hw : ∀ A : Act, Region.wanted oi (yielded ops A.tmps) = true ∧ Region.wanted oj (yielded ops A.tmps) = true ∧ Region.wanted ok (yielded ops A.tmps) = true ∧ Region.wanted ox (yielded ops A.tmps) = true)
    (hQ : ∀ c x A W, QE (.panic c) (Act.put A ox.dst x) W → QE (.panic c) A W)
    (hv : ∀ (A : Act) (W : World), A = a ∨ (∃ u, A = a.put (some e) u) ∨ (∃ p, A = a.put (some f) p) ∨ (∃ u p, A = (a.put (some e) u).put (some f) p) → (W = w ∨ W = w.alloc ob ∨ (∃ e', Post1 e' W) ∨ (∃ e', Post2 e' W) ∨ ∃ e' W1, Post1 e' W1 ∧ W = W1.alloc ob) → (execOp A.eval oi).run P W = .ok (.value v) W)
    (hc : ∀ A : Act, A = a ∨ A = a.put (some d) v ∨ (∃ p, A = a.put (some f) p) ∨ (∃ p, A = (a.put (some d) v).put (some f) p) → ∀ W, (execOp A.eval oj).run P W = .ok (.enter fn vs) W)
    (ha : ∀ (A : Act) (W : World), (execOp A.eval ok).run P W = .ok (.value (.pointer (some ⟨W.heap.size, 0, none⟩))) (W.alloc ob))
    (hvb : ∀ (u : Value) (W0 : World), (Post1 (.returned u) W0 ∨ Post2 (.returned u) W0) → ∀ (A : Act), (A = (a.put (some d) v).put (some e) u ∨ ∃ p, A = ((a.put (some d) v).put (some e) u).put (some f) p) → ∀ W, (execOp A.eval ox).run P W = .ok (.value (vb u)) W)
    (hc1 : Calls P fn vs w Post1) (hc2 : Calls P fn vs (w.alloc ob) Post2)
    (hL : (((listed.setIfInBounds i true).setIfInBounds j true).setIfInBounds k true).setIfInBounds b true = L)
    (h1 : ∀ e' w1, Post1 e' w1 → ∃ u, e' = .returned u ∧ wpAny P md ops QE fuel L ((((a.put (some d) v).put (some e) u).put (some f) (.pointer (some ⟨w1.heap.size, 0, none⟩))).put (some s) (vb u)) (w1.alloc ob))
    (h2 : ∀ e' w1, Post2 e' w1 → ∃ u, e' = .returned u ∧ wpAny P md ops QE fuel L ((((a.put (some d) v).put (some e) u).put (some f) (.pointer (some ⟨w.heap.size, 0, none⟩))).put (some s) (vb u)) w1) :
    wpAny P md ops QE (fuel + 1 + 1 + 1 + 1) listed a w := by
  have hLb : (((listed.setIfInBounds i true).setIfInBounds j true).setIfInBounds b true).setIfInBounds k true = L := by rw [Array.setIfInBounds_comm (xs := (listed.setIfInBounds i true).setIfInBounds j true) _ _ (fun x => hkb x.symm)]; exact hL
  have eji : (listed.setIfInBounds j true).setIfInBounds i true = (listed.setIfInBounds i true).setIfInBounds j true := Array.setIfInBounds_comm _ _ (fun x => hij x.symm)
  have eki : (listed.setIfInBounds k true).setIfInBounds i true = (listed.setIfInBounds i true).setIfInBounds k true := Array.setIfInBounds_comm _ _ (fun x => hik x.symm)
  have ekj : (listed.setIfInBounds k true).setIfInBounds j true = (listed.setIfInBounds j true).setIfInBounds k true := Array.setIfInBounds_comm _ _ (fun x => hjk x.symm)
  have eikj : ((listed.setIfInBounds i true).setIfInBounds k true).setIfInBounds j true = ((listed.setIfInBounds i true).setIfInBounds j true).setIfInBounds k true := Array.setIfInBounds_comm _ _ (fun x => hjk x.symm)
  have ejki : ((listed.setIfInBounds j true).setIfInBounds k true).setIfInBounds i true = ((listed.setIfInBounds i true).setIfInBounds j true).setIfInBounds k true := by
    rw [Array.setIfInBounds_comm (xs := listed.setIfInBounds j true) _ _ (fun x => hik x.symm), eji]
  -- load and call done, the alloc still to come
  have pre : ∀ (u : Value) (w1 : World), Post1 (.returned u) w1 → wpAny P md ops QE fuel L ((((a.put (some d) v).put (some e) u).put (some f) (.pointer (some ⟨w1.heap.size, 0, none⟩))).put (some s) (vb u)) (w1.alloc ob) →
      wpAny P md ops QE (fuel + 1 + 1) ((listed.setIfInBounds i true).setIfInBounds j true) ((a.put (some d) v).put (some e) u) w1 := fun u w1 hp h => by
    refine wpAny_take (at_drop hb) hns hfij hrij (hQ · (vb u)) (Or.inl ⟨(hw _).2.2.2, hvb u w1 (.inl hp) _ (.inl rfl)⟩) ?_
    refine wpAny_only k hrijb hk (hw _).2.2.1 (wp_of_valw (ha _ w1) ?_)
    rw [hs, hf, hLb, put_comm f s _ _ (fun x => hsf x.symm)]
    exact h
  have post : ∀ (u : Value) (p : Value) (W : World), (∃ W0, Post1 (.returned u) W0 ∨ Post2 (.returned u) W0) → wpAny P md ops QE fuel L ((((a.put (some d) v).put (some e) u).put (some f) p).put (some s) (vb u)) W →
      wpAny P md ops QE (fuel + 1) (((listed.setIfInBounds i true).setIfInBounds j true).setIfInBounds k true) (((a.put (some d) v).put (some e) u).put (some f) p) W := fun u p W ⟨W0, hp⟩ h => by
    refine wpAny_val b (some s) (vb u) hrijk hb hs (hw _).2.2.2 (hvb u W0 hp _ (.inr ⟨p, rfl⟩) W) ?_
    rw [hL]
    exact h
  refine wpAny_ops3 i j k hr hi hj hk (hw a).1 (hw a).2.1 (hw a).2.2.1 ?_ ?_ ?_
  · -- the load first
    refine wp_of_val (hv a w (.inl rfl) (.inl rfl)) ?_
    rw [hd]
    refine wpAny_ops2 j k hri hj hk (hw _).2.1 (hw _).2.2.1 ?_ ?_
    · refine wp_of_call (hc _ (.inr (.inl rfl)) w) hc1 fun e' w1 hp => ?_
      obtain ⟨u, rfl, h⟩ := h1 e' w1 hp
      refine ⟨u, rfl, ?_⟩
      rw [he]
      exact pre u w1 hp h
    · refine wp_of_valw (ha _ w) ?_
      rw [hf]
      refine wpAny_only j hrik hj (hw _).2.1 (wp_of_call (hc _ (.inr (.inr (.inr ⟨_, rfl⟩))) _) hc2 fun e' w1 hp => ?_)
      obtain ⟨u, rfl, h⟩ := h2 e' w1 hp
      refine ⟨u, rfl, ?_⟩
      rw [he, eikj, put_comm e f _ _ hef]
      exact post u _ w1 ⟨w1, .inr hp⟩ h
  · -- the call first
    refine wp_of_call (hc a (.inl rfl) w) hc1 fun e' w1 hp => ?_
    obtain ⟨u, rfl, h⟩ := h1 e' w1 hp
    refine ⟨u, rfl, ?_⟩
    rw [he]
    refine wpAny_ops2 i k hrj hi hk (hw _).1 (hw _).2.2.1 ?_ ?_
    · refine wp_of_val (hv _ w1 (.inr (.inl ⟨u, rfl⟩)) (.inr (.inr (.inl ⟨_, hp⟩)))) ?_
      rw [hd, eji, put_comm d e _ _ hde]
      exact pre u w1 hp h
    · refine wp_of_valw (ha _ w1) ?_
      rw [hf]
      refine wpAny_only i hrjk hi (hw _).1 (wp_of_val (hv _ _ (.inr (.inr (.inr ⟨_, _, rfl⟩))) (.inr (.inr (.inr (.inr ⟨_, w1, hp, rfl⟩))))) ?_)
      rw [hd, ejki, put_comm d f _ _ hdf, put_comm d e _ _ hde]
      exact post u _ _ ⟨w1, .inl hp⟩ h
  · -- the alloc first
    refine wp_of_valw (ha a w) ?_
    rw [hf]
    refine wpAny_ops2 i j hrk hi hj (hw _).1 (hw _).2.1 ?_ ?_
    · refine wp_of_val (hv _ _ (.inr (.inr (.inl ⟨_, rfl⟩))) (.inr (.inl rfl))) ?_
      rw [hd, eki]
      refine wpAny_only j hrik hj (hw _).2.1 (wp_of_call (hc _ (.inr (.inr (.inr ⟨.pointer (some ⟨w.heap.size, 0, none⟩), by rw [put_comm d f _ _ hdf]⟩))) _) hc2 fun e' w1 hp => ?_)
      obtain ⟨u, rfl, h⟩ := h2 e' w1 hp
      refine ⟨u, rfl, ?_⟩
      rw [he, eikj, put_comm d f _ _ hdf, put_comm e f _ _ hef]
      exact post u _ w1 ⟨w1, .inr hp⟩ h
    · refine wp_of_call (hc _ (.inr (.inr (.inl ⟨_, rfl⟩))) _) hc2 fun e' w1 hp => ?_
      obtain ⟨u, rfl, h⟩ := h2 e' w1 hp
      refine ⟨u, rfl, ?_⟩
      rw [he, ekj]
      refine wpAny_only i hrjk hi (hw _).1 (wp_of_val (hv _ _ (.inr (.inr (.inr ⟨u, .pointer (some ⟨w.heap.size, 0, none⟩), by rw [put_comm e f _ _ hef]⟩))) (.inr (.inr (.inr (.inl ⟨_, hp⟩))))) ?_)
      rw [hd, ejki, put_comm e f _ _ hef, put_comm d f _ _ hdf, put_comm d e _ _ hde]
      exact post u _ w1 ⟨w1, .inr hp⟩ h
end

end Go.Proofs.YtpboaadjbkaidaaDoor

namespace Go.Proofs.YtpboaadjbkaidaaDoor
set_option maxRecDepth 100000
open Go.RowKit

def nameW : List ByteArray := [⟨#[97]⟩, ⟨#[98]⟩, ⟨#[99]⟩, ⟨#[100]⟩, ⟨#[101]⟩, ⟨#[102]⟩]
def tableM (L : List Int) (i N : Nat) : Tb := ⟨nameW.getD i ⟨#[]⟩, if nextN L (rulesM L N 2).2 8 < 6 then nameW.getD (nextN L (rulesM L N 2).2 8).toNat ⟨#[]⟩ else ⟨#[]⟩, (rulesM L N 2).1⟩
def tablesGo (L : List Int) : Nat → Nat → List Tb → List Tb
  | 0, _, ts => ts
  | i + 1, N, ts => tablesGo L i ((rulesM L N 2).2 + 1) (ts ++ [tableM L i N])
def tablesM (L : List Int) : List Tb := tablesGo L (nextN L 0 7).toNat 1 []
/-- What made tables keep to. -/
def TmOk (t : Tb) : Prop := t.nm.size ≤ 1 ∧ t.pa.size ≤ 1 ∧ t.rs.length ≤ 2 ∧ ∀ r ∈ t.rs, RuOk r
theorem nameW_size : ∀ k, (nameW.getD k ⟨#[]⟩).size ≤ 1 := by
  intro k
  by_cases h : k < nameW.length
  · have : ∀ x ∈ nameW, x.size ≤ 1 := by decide
    rw [List.getD_eq_getElem?_getD, List.getElem?_eq_getElem h]
    exact this _ (List.getElem_mem h)
  · rw [List.getD_eq_getElem?_getD, List.getElem?_eq_none (by omega)]
    decide
theorem tableM_ok (L : List Int) (i N : Nat) : TmOk (tableM L i N) := by
  have h := rulesM_bd L N 2 (by decide)
  refine ⟨nameW_size _, ?_, h.1, h.2.2⟩
  show (if _ then _ else _ : ByteArray).size ≤ 1
  split
  · exact nameW_size _
  · decide
theorem tablesGo_ok (L : List Int) : ∀ i N ts, (∀ t ∈ ts, TmOk t) → (tablesGo L i N ts).length = ts.length + i ∧ ∀ t ∈ tablesGo L i N ts, TmOk t
  | 0, _, ts, h => ⟨rfl, h⟩
  | i + 1, N, ts, h => by
    rw [tablesGo]
    have ih := tablesGo_ok L i ((rulesM L N 2).2 + 1) (ts ++ [tableM L i N]) (fun t ht => by
      rcases List.mem_append.1 ht with ht | ht
      · exact h t ht
      · rw [List.mem_singleton.1 ht]; exact tableM_ok L i N)
    exact ⟨by rw [ih.1]; simp; omega, ih.2⟩
theorem tablesM_ok (L : List Int) : (tablesM L).length ≤ 6 ∧ ∀ t ∈ tablesM L, TmOk t := by
  have hb := nextN_bd L 0 7 (by decide)
  have h := tablesGo_ok L (nextN L 0 7).toNat 1 [] (fun _ h => by simp at h)
  unfold tablesM
  exact ⟨by rw [h.1]; simp; omega, h.2⟩

/-- Tables under way: a row of the call's own, beside blocks X that may change. -/
structure TR (eT : TypeId) (X : List Nat) (B : Nat) (w : World) (v : Value) (ts : List Tb) (xs : List TbV) : Prop where
  own : OwnE eT tbC 3 w B v xs
  len : xs.length = ts.length
  each : ∀ (j : Nat) (x : TbV) (t : Tb), xs[j]? = some x → ts[j]? = some t → x.nm = t.nm ∧ x.pa = t.pa ∧ Keep (X ++ blkL v) w fun u => RdRu u x.r.v t.rs
  below : ∀ b ∈ X, b < B
section
variable {eT : TypeId} {X : List Nat} {B : Nat} {w w' : World} {v v' : Value} {ts : List Tb} {xs : List TbV}
theorem TR.start (hX : ∀ b ∈ X, b < B) : TR eT X B w (.slice none 0 0) [] [] where
  own := OwnE.nil
  len := rfl
  each := fun _ _ _ h => by simp at h
  below := hX
theorem TR.rd (h : TR eT X B w v ts xs) : RdTb w v ts :=
  ⟨xs, h.own.rd tbC_len, h.len, fun i y r hy hr => ⟨(h.each i y r hy hr).1, (h.each i y r hy hr).2.1, (h.each i y r hy hr).2.2.now⟩⟩
theorem TR.keep (h : TR eT X B w v ts xs) (hs : w.heap.size ≤ w'.heap.size) (hk : ∀ b, b < w.heap.size → b ∉ X → w'.heap[b]? = w.heap[b]?) : TR eT X B w' v ts xs where
  own := own_same h.own fun k hk2 => hk k (h.own.lt k hk2).2 (fun hX => by have := h.below k hX; have := (h.own.lt k hk2).1; omega)
  len := h.len
  each := fun i y r hy hr => ⟨(h.each i y r hy hr).1, (h.each i y r hy hr).2.1, (h.each i y r hy hr).2.2.step hs fun b hb hX => ⟨hk b hb (fun e => hX (List.mem_append_left _ e)), hX⟩⟩
  below := h.below
theorem TR.but {g : Nat} (h : TR eT X B w v ts xs) (hg : g ∈ X) (hb : But g w w') : TR eT X B w' v ts xs :=
  h.keep hb.size fun b hlt hX => hb.block b hlt (fun e => hX (by rw [e]; exact hg))
theorem TR.alloc (h : TR eT X B w v ts xs) (o : Obj) : TR eT X B (w.alloc o) v ts xs :=
  h.keep (by simp) fun b hlt _ => Below.heap_alloc w o b hlt
theorem TR.push (h : TR eT X B w v ts xs) (t : Tb) (y : TbV) (hn : y.nm = t.nm) (hp : y.pa = t.pa) (hk : Keep (X ++ blkL v) w fun u => RdRu u y.r.v t.rs)
    (hown : OwnE eT tbC 3 w' B v' (xs ++ [y])) (hg : w.grownBy w' v.ownBlock) (hat : v'.ownBlock = v.ownBlock ∨ v'.ownBlock = some w.heap.size) : TR eT X B w' v' (ts ++ [t]) (xs ++ [y]) := by
  have hnew : ∀ b, b < w.heap.size → b ∉ X ++ blkL v → w'.heap[b]? = w.heap[b]? ∧ b ∉ X ++ blkL v' := fun b hb hX => by
    have h2 : v.ownBlock ≠ some b := fun e => hX (List.mem_append_right _ (mem_blkL.2 e))
    refine ⟨hg.block b hb (fun e => h2 e.symm), fun hm => ?_⟩
    rcases List.mem_append.1 hm with hm | hm
    · exact hX (List.mem_append_left _ hm)
    · have h3 := mem_blkL.1 hm
      rcases hat with e | e
      · exact h2 (e ▸ h3)
      · rw [e] at h3; injection h3 with h3; omega
  refine ⟨hown, by simp [h.len], fun j q p hq hp2 => ?_, h.below⟩
  by_cases hj : j < xs.length
  · rw [List.getElem?_append_left hj] at hq
    rw [List.getElem?_append_left (by rw [← h.len]; exact hj)] at hp2
    exact ⟨(h.each j q p hq hp2).1, (h.each j q p hq hp2).2.1, (h.each j q p hq hp2).2.2.step hg.size hnew⟩
  · have hj2 : j < xs.length + 1 := by have := (List.getElem?_eq_some_iff.1 hq).1; simpa using this
    obtain rfl : j = xs.length := by omega
    rw [List.getElem?_append_right (Nat.le_refl _), Nat.sub_self] at hq
    rw [List.getElem?_append_right (by rw [h.len]; exact Nat.le_refl _), h.len, Nat.sub_self] at hp2
    obtain rfl : y = q := by simpa using hq
    obtain rfl : t = p := by simpa using hp2
    exact ⟨hn, hp, hk.step hg.size hnew⟩
end
theorem set3_box {w : World} {b : Nat} {x y z u0 u1 u2 : Value} {t : TypeId} (h : w.heap[b]? = some (.cells #[x, y, z] t)) : (w.setCells b 0 [u0, u1, u2]).heap[b]? = some (.cells #[u0, u1, u2] t) := by
  have h1 := set_row1 h 0 u0
  have h2 := set_row1 h1 1 u1
  have h3 := set_row1 h2 2 u2
  exact h3
theorem set3_but {w : World} {b : Nat} {u0 u1 u2 : Value} (k : Nat) (hk : k ≠ b) : (w.setCells b 0 [u0, u1, u2]).heap[k]? = w.heap[k]? := by
  show (((w.setCell ⟨b, 0, none⟩ u0).setCell ⟨b, 1, none⟩ u1).setCell ⟨b, 2, none⟩ u2).heap[k]? = _
  rw [heap_setCell_other _ _ _ _ hk, heap_setCell_other _ _ _ _ hk, heap_setCell_other _ _ _ _ hk]
theorem set3_sz {w : World} {b : Nat} {u0 u1 u2 : Value} : (w.setCells b 0 [u0, u1, u2]).heap.size = w.heap.size := by
  show (((w.setCell ⟨b, 0, none⟩ u0).setCell ⟨b, 1, none⟩ u1).setCell ⟨b, 2, none⟩ u2).heap.size = _
  simp [World.setCell]
theorem below_set3 {B : Nat} {W w : World} {b : Nat} {u0 u1 u2 : Value} (h : Below B W w) (hb : B ≤ b) : Below B W (w.setCells b 0 [u0, u1, u2]) :=
  ((h.setCell (p := ⟨b, 0, none⟩) hb u0).setCell (p := ⟨b, 1, none⟩) hb u1).setCell (p := ⟨b, 2, none⟩) hb u2
theorem there3 {w : World} {b : Nat} {x y z : Value} {t : TypeId} (h : Hid (w.heap[b]? = some (.cells #[x, y, z] t))) : w.there b 0 3 := fun i hi => by
  have h1 := box3 h.out
  rcases (show i = 0 ∨ i = 1 ∨ i = 2 by omega) with rfl | rfl | rfl
  · exact ⟨by show (w.cell? ⟨b, 0, none⟩).isSome = true; rw [h1.1]; rfl, h1.2.2.2.1⟩
  · exact ⟨by show (w.cell? ⟨b, 1, none⟩).isSome = true; rw [h1.2.1]; rfl, h1.2.2.2.2.1⟩
  · exact ⟨by show (w.cell? ⟨b, 2, none⟩).isSome = true; rw [h1.2.2.1]; rfl, h1.2.2.2.2.2⟩
theorem ex_table {o : Oper} {a : Act} {w : World} (x y : Operand) (nv : ByteArray) (A : Option Addr) (n c : Nat) (ho : o.op = .build 46 #[(0, x), (2, y)]) (hx : a.eval x = .string nv) (hy : a.eval y = .slice A n c) : (execOp a.eval o).run Tryd.prog w = .ok (.value (.agg #[.string nv, .string ⟨#[]⟩, .slice A n c])) w := by
  generalize a.eval = ρ at hx hy ⊢
  unfold execOp
  simp only [ho]
  go_simp


theorem nums_keepg {w w' : World} {g : Nat} {L : List Int} {N : Nat} (h : Nums w g L N) (hk : ∀ k, k ≤ g → w'.heap[k]? = w.heap[k]?) : Nums w' g L N := by
  obtain ⟨v, W0, h1, h2, h3, h4, h5⟩ := h
  exact ⟨v, W0, (hk g (Nat.le_refl _)).trans h1, h2, h3, fun k hk' => (hk k (by omega)).trans (h4 k hk'), h5⟩
theorem ex_enterR {a : Act} {w : World} {o : Oper} (x y : Operand) (ts : Array TypeId) (vx vy : Value) (ho : o.op = .call { callee := .value (.func 64), args := #[x, y], argTypes := ts }) (hx : a.eval x = vx) (hy : a.eval y = vy) : (execOp a.eval o).run Tryd.prog w = .ok (.enter 64 #[vx, vy]) w := by
  have hf : a.eval (.func 64) = .func (.func 64) #[] #[] := rfl
  generalize a.eval = ρ at hx hy hf ⊢
  unfold execOp
  simp only [ho]
  go_simp
theorem ex_allocT {a : Act} {w : World} {o : Oper} (ho : o.op = .alloc 46) : (execOp a.eval o).run Tryd.prog w = .ok (.value (.pointer (some ⟨w.heap.size, 0, none⟩))) (w.alloc (.cells #[.string ⟨#[]⟩, .string ⟨#[]⟩, .slice none 0 0] 46)) := by
  unfold execOp
  simp only [ho]
  go_simp

set_option maxRecDepth 100000 in
set_option maxHeartbeats 16000000 in
theorem tables6_any (A0 : Option Addr) (c0 : Nat) (L : List Int) (w : World) (hr : RdE intC 1 w (.slice A0 L.length c0) L) (hin : ∀ x ∈ L, IntIn x) :
    Calls Tryd.prog 26 #[.slice A0 L.length c0] w fun e w' => ∃ v, e = .returned v ∧ RdTb w' v (tablesM L) ∧ Below w.heap.size w w' := by
  obtain ⟨R, HRR⟩ : ∃ R : Ending → World → Prop, Hid (R = fun e w' => ∃ v, e = .returned v ∧ RdTb w' v (tablesM L) ∧ Below w.heap.size w w') := ⟨_, rfl⟩
  rw [← HRR.out]
  have HN0 : Hid (Nums (w.alloc (.cells #[.slice A0 L.length c0, .int .i64 0] 62)) w.heap.size L 0) := Lib.hid ⟨_, w, Array.getElem?_push_size, hr, Nat.le_refl _, fun k hk => Below.heap_alloc _ _ _ hk, hin⟩
  have HB0 := Lib.hid ((Below.refl w.heap.size w).alloc (Nat.le_refl _) (.cells #[.slice A0 L.length c0, .int .i64 0] 62))
  have hgw : w.heap.size < (w.alloc (.cells #[.slice A0 L.length c0, .int .i64 0] 62)).heap.size := by simp
  clear hr hin
  go_enter Tryd.func26, Tryd.ntmps26
  go_upto_region 3 with fail
  generalize hg : w.heap.size = g at HN0 HB0 hgw ⊢
  generalize w.alloc (.cells #[.slice A0 L.length c0, .int .i64 0] 62) = w0 at HN0 HB0 hgw ⊢
  have HN1 : Hid (Nums (w0.alloc (.cells #[.string ⟨#[97]⟩, .string ⟨#[98]⟩, .string ⟨#[99]⟩, .string ⟨#[100]⟩, .string ⟨#[101]⟩, .string ⟨#[102]⟩] 9)) g L 0) := Lib.hid (HN0.out.alloc _)
  have HB1 := Lib.hid (HB0.out.alloc (by omega) (.cells #[.string ⟨#[97]⟩, .string ⟨#[98]⟩, .string ⟨#[99]⟩, .string ⟨#[100]⟩, .string ⟨#[101]⟩, .string ⟨#[102]⟩] 9))
  have HQ1 : Hid (∀ k, k < 6 → (w0.alloc (.cells #[.string ⟨#[97]⟩, .string ⟨#[98]⟩, .string ⟨#[99]⟩, .string ⟨#[100]⟩, .string ⟨#[101]⟩, .string ⟨#[102]⟩] 9)).cell? ⟨w0.heap.size, k, none⟩ = some (.string (nameW.getD k ⟨#[]⟩))) := fun k hk => cells_strs w0 _ rfl nameW 9 k hk
  have hnbl : w0.heap.size < (w0.alloc (.cells #[.string ⟨#[97]⟩, .string ⟨#[98]⟩, .string ⟨#[99]⟩, .string ⟨#[100]⟩, .string ⟨#[101]⟩, .string ⟨#[102]⟩] 9)).heap.size := by simp
  go_upto_region 4 with fail
  clear HN0 HB0
  generalize hnb : w0.heap.size = nb at HQ1 hnbl hgw ⊢
  generalize w0.alloc (.cells #[.string ⟨#[97]⟩, .string ⟨#[98]⟩, .string ⟨#[99]⟩, .string ⟨#[100]⟩, .string ⟨#[101]⟩, .string ⟨#[102]⟩] 9) = w1 at HN1 HB1 HQ1 hnbl ⊢
  have hz := nextN_bd L 0 7 (by decide)
  obtain ⟨TT, HTT⟩ : ∃ TT, Hid (tablesGo L (nextN L 0 7).toNat 1 [] = TT) := ⟨_, rfl⟩
  have HTR : Hid (R = fun e w' => ∃ v, e = .returned v ∧ RdTb w' v TT ∧ Below w.heap.size w w') := by
    show _ = _
    rw [HRR.out, ← HTT.out]
    rfl
  clear HRR
  go_upto_region 5 with (go_at_call 63; refine (next_any' L g 0 7 _ (by exact HN1.out) (by decide) (by decide) (by decide)).mono ?_; rintro e w4 ⟨rfl, hb4, hn4⟩)
  generalize nextN L 0 7 = z at hz hn4 HTT ⊢
  obtain ⟨z', rfl⟩ : ∃ z' : Nat, z = (z' : Int) := ⟨z.toNat, by omega⟩
  rw [Int.toNat_natCast] at HTT
  have hz4 := hb4.size
  have HB4 := Lib.hid (HB1.out.trans (But.below (B := g) hb4 (Nat.le_refl _) (by omega)))
  have HN4 := Lib.hid hn4
  have HQ4 : Hid (∀ k, k < 6 → w4.cell? ⟨nb, k, none⟩ = some (.string (nameW.getD k ⟨#[]⟩))) := fun k hk => (World.cell?_of_block (w := w1) (hb4.block nb hnbl (by omega))).trans (HQ1.out k hk)
  have hg4 : g < w4.heap.size := by omega
  have hnb4 : nb < w4.heap.size := by omega
  have hgnb : nb ≠ g := by omega
  clear hb4 hn4 HN1 HQ1 HB1
  go_loopg [4, 6] z' (fun gk ov iv wr => ∃ (ts : List Tb) (xs : List TbV) (i M : Nat), iv = .int .i64 i ∧ Hid (TR 46 [g] w4.heap.size wr ov ts xs) ∧ Hid (But g w4 wr) ∧ Hid (Nums wr g L M) ∧ ts.length + i ≤ 6 ∧ M + 100 * i ≤ 601 ∧ Hid (tablesGo L i M ts = TT) ∧ i ≤ gk)
  case atStart => exact ⟨[], [], z', 1, rfl, TR.start (fun b hb => by rw [List.mem_singleton.1 hb]; exact hg4), But.refl _ _, HN4.out, by simp; omega, by omega, HTT.out, Nat.le_refl _⟩
  case round =>
    clear HN4 HTT
    obtain ⟨ts, xs, i, M, rfl, HO, HB, HNU, hpi, hM, HV, hgk⟩ := hrel
    by_cases hi0 : 0 < i
    · have hi0i : (0 : Int) < (i : Int) := by omega
      obtain ⟨A, cA, hov⟩ := own_shape HO.out.own
      subst hov
      have hlen := HO.out.len
      have hlen2 : xs.length + i ≤ 6 := by omega
      have HV2 : Hid (tablesGo L (i - 1) ((rulesM L M 2).2 + 1) (ts ++ [tableM L (i - 1) M]) = TT) := by
        show _ = _
        rw [← HV.out]
        obtain ⟨i', rfl⟩ : ∃ i', i = i' + 1 := ⟨i - 1, by omega⟩
        rfl
      clear HV hlen
      have HTM : Hid (tableM L (i - 1) M = ⟨nameW.getD (i - 1) ⟨#[]⟩, if nextN L (rulesM L M 2).2 8 < 6 then nameW.getD (nextN L (rulesM L M 2).2 8).toNat ⟨#[]⟩ else ⟨#[]⟩, (rulesM L M 2).1⟩) := rfl
      rw [HTM.out] at HV2
      clear HTM
      have hz5 := HB.out.size
      have HQW : Hid (wr.cell? ⟨nb, i - 1, none⟩ = some (.string (nameW.getD (i - 1) ⟨#[]⟩))) := (World.cell?_of_block (w := w4) (HB.out.block nb hnb4 hgnb)).trans (HQ4.out (i - 1) (by omega))
      generalize nameW.getD (i - 1) ⟨#[]⟩ = nv at HQW HV2
      have hbd := (rulesM_bd L M 2 (by decide)).2.1
      have e2 : (2 : Int).toNat = 2 := rfl
      rw [e2] at hbd
      have HCR := Lib.hid (fun W h => rulesN_any L g M 2 W h (by omega) (by decide))
      change Hid (∀ W (h : Nums W g L M), Calls _ _ _ W (RulesRetN L g (rulesM L M 2) W)) at HCR
      generalize rulesM L M 2 = rr at HCR HV2 hbd
      obtain ⟨rs, rn⟩ := rr
      simp only at hbd HV2
      have hz8 := nextN_bd L rn 8 (by decide)
      have HCK := Lib.hid (fun W h => next_any' L g rn 8 W h (by omega) (by decide) (by decide))
      generalize nextN L rn 8 = k8 at hz8 HCK HV2
      have HIA : Hid (∀ W : World, (Instr.indexAt 68 (.slice (some ⟨nb, 0, none⟩) 6 6) (.int .i64 ((i : Int) - 1))).run Tryd.prog W = .ok (.pointer (some ⟨nb, i - 1, none⟩)) W) := fun W => by
        have h1 : (1 : Int) ≤ (i : Int) := by omega
        have h0 : ¬ (i : Int) < 1 := by omega
        have h2 : (i : Int) - 1 < 6 := by omega
        have h3 : ((i : Int) - 1).toNat = i - 1 := by omega
        go_simp
      have hwr : IntKind.i64.wrap ((i : Int) - 1) = (i : Int) - 1 := by rw [IntKind.wrap_i64]; omega
      go_upto_region 7 with fail
      obtain ⟨w5, hw5⟩ : ∃ w5 : World, Hid (w5 = wr) := ⟨wr, rfl⟩
      rw [← hw5.out] at HO HB HNU HQW hz5 ⊢
      have HXB : Hid (∀ b ∈ [g] ++ blkL (.slice A xs.length cA), b < w5.heap.size) := fun b hb => by
        rcases List.mem_append.1 hb with hb | hb
        · rw [List.mem_singleton.1 hb]; omega
        · exact (HO.out.own.lt b (mem_blkL.1 hb)).2
      go_cut [7] (fun tv wx => ∃ (p : Nat) (A1 : Option Addr) (c1 : Nat), tv = .pointer (some ⟨p, 0, none⟩) ∧ w5.heap.size ≤ p ∧ Hid (wx.heap[p]? = some (.cells #[.string nv, .string ⟨#[]⟩, .slice A1 rs.length c1] 46)) ∧ Hid (But g w5 wx) ∧ Hid (Nums wx g L rn) ∧ Hid (Keep (p :: ([g] ++ blkL (.slice A xs.length cA))) wx fun u => RdRu u (.slice A1 rs.length c1) rs))
      case first =>
        have HBQ : Hid (But g w5 w5.drew) := Lib.hid ((But.refl g w5).drewN 1)
        have HNQ : Hid (Nums w5.drew g L M) := Lib.hid (nums_keepg HNU.out fun _ _ => rfl)
        have HNQA : Hid (Nums (w5.drew.alloc (.cells #[.string ⟨#[]⟩, .string ⟨#[]⟩, .slice none 0 0] 46)) g L M) := Lib.hid (HNQ.out.alloc _)
        have hnb5 : nb < w5.heap.size := by omega
        have hg5 : g < w5.heap.size := by omega
        have HQN : Hid (∀ W : World, (W = w5.drew ∨ W = w5.drew.alloc (.cells #[.string ⟨#[]⟩, .string ⟨#[]⟩, .slice none 0 0] 46) ∨ (∃ e', RulesRetN L g (rs, rn) w5.drew e' W) ∨ (∃ e', RulesRetN L g (rs, rn) (w5.drew.alloc (.cells #[.string ⟨#[]⟩, .string ⟨#[]⟩, .slice none 0 0] 46)) e' W) ∨ ∃ e' W1, RulesRetN L g (rs, rn) w5.drew e' W1 ∧ W = W1.alloc (.cells #[.string ⟨#[]⟩, .string ⟨#[]⟩, .slice none 0 0] 46)) → W.cell? ⟨nb, i - 1, none⟩ = some (.string nv)) := by
          intro W hW
          have hb : W.heap[nb]? = w5.heap[nb]? := by
            rcases hW with rfl | rfl | ⟨e', _, _, _, _, hb, _⟩ | ⟨e', _, _, _, _, hb, _⟩ | ⟨e', W1, ⟨_, _, _, _, hb, _⟩, rfl⟩
            · rfl
            · exact Below.heap_alloc w5.drew _ nb hnb5
            · exact hb.block nb hnb5 hgnb
            · exact (hb.block nb (by simp; omega) hgnb).trans (Below.heap_alloc w5.drew _ nb hnb5)
            · exact (Below.heap_alloc W1 _ nb (Nat.lt_of_lt_of_le hnb5 hb.size)).trans (hb.block nb hnb5 hgnb)
          exact (World.cell?_of_block (w := w5) hb).trans HQW.out
        refine wp_region_at 10 #[false, false, false, false, false, false, false, false, false, false] rfl rfl (by kernel_rfl) ?_
        refine wpAny_at (i := 0) (v := .slice (some ⟨nb, 0, none⟩) 6 6) (some 19) rfl rfl (by kernel_rfl) (by kernel_rfl) (by kernel_rfl) (fun _ _ _ h => h) (by kernel_rfl) (fun _ => ex_move _ _ rfl (by kernel_rfl)) ?_
        simp only [Act.put, List.setIfInBounds_toArray, List.set_cons_zero, List.set_cons_succ]
        refine wpAny_at (i := 1) (v := .int .i64 (i : Int)) (some 20) rfl rfl (by kernel_rfl) (by kernel_rfl) (by kernel_rfl) (fun _ _ _ h => h) (by kernel_rfl) (fun _ => ex_move _ _ rfl (by kernel_rfl)) ?_
        simp only [Act.put, List.setIfInBounds_toArray, List.set_cons_zero, List.set_cons_succ]
        refine wpAny_at (i := 2) (v := .int .i64 ((i : Int) - 1)) (some 21) rfl rfl (by kernel_rfl) (by kernel_rfl) (by kernel_rfl) (fun _ _ _ h => h) (by kernel_rfl) (fun _ => ex_binOp .sub 3 3 _ _ (.int .i64 (i : Int)) (.int .i64 1) _ rfl (by kernel_rfl) (by kernel_rfl) (by go_simp)) ?_
        simp only [Act.put, List.setIfInBounds_toArray, List.set_cons_zero, List.set_cons_succ]
        refine wpAny_at (i := 3) (v := .pointer (some ⟨nb, i - 1, none⟩)) (some 22) rfl rfl (by kernel_rfl) (by kernel_rfl) (by kernel_rfl) (fun _ _ _ h => h) (by kernel_rfl) (fun _ => ex_indexAddr 68 _ _ (.slice (some ⟨nb, 0, none⟩) 6 6) (.int .i64 ((i : Int) - 1)) _ rfl (by kernel_rfl) (by kernel_rfl) (HIA.out _)) ?_
        simp only [Act.put, List.setIfInBounds_toArray, List.set_cons_zero, List.set_cons_succ]
        refine wpAny_at (i := 5) (v := .pointer (some ⟨g, 0, none⟩)) (some 24) rfl rfl (by kernel_rfl) (by kernel_rfl) (by kernel_rfl) (fun _ _ _ h => h) (by kernel_rfl) (fun _ => ex_move _ _ rfl (by kernel_rfl)) ?_
        simp only [Act.put, List.setIfInBounds_toArray, List.set_cons_zero, List.set_cons_succ]
        refine wpAny_lcab 4 6 8 7 23 25 7 26 (.string nv) (fun u => .agg #[.string nv, .string ⟨#[]⟩, u]) (.cells #[.string ⟨#[]⟩, .string ⟨#[]⟩, .slice none 0 0] 46) 64 #[.pointer (some ⟨g, 0, none⟩), .int .i64 2] (by kernel_rfl) (by kernel_rfl) (by kernel_rfl) (by kernel_rfl) (by kernel_rfl) (by kernel_rfl) (by kernel_rfl) (by kernel_rfl) (by kernel_rfl) (by kernel_rfl) (by kernel_rfl) rfl rfl rfl rfl rfl rfl rfl rfl (by decide) (by decide) (by decide) (by decide) (by decide) (by decide) (by decide) (by decide) (fun A => ⟨rfl, rfl, rfl, rfl⟩) (fun _ _ _ _ h => h) (fun A W hA hW => ?_) (fun A hA W => ?_) (fun A W => ?_) (fun u W0 hp A hA W => ?_) (HCR.out _ HNQ.out) (HCR.out _ HNQA.out) rfl ?_ ?_
        · have e : A.eval (.tmp 22) = .pointer (some ⟨nb, i - 1, none⟩) := by
            rcases hA with rfl | ⟨_, rfl⟩ | ⟨_, rfl⟩ | ⟨_, _, rfl⟩ <;> rfl
          exact ex_load 9 _ _ _ rfl e (ld_str0 (HQN.out W hW))
        · have e1 : A.eval (.tmp 24) = .pointer (some ⟨g, 0, none⟩) := by
            rcases hA with rfl | rfl | ⟨_, rfl⟩ | ⟨_, rfl⟩ <;> rfl
          exact ex_enterR (.tmp 24) (.const (.int .i64 2)) _ _ _ rfl e1 rfl
        · exact ex_allocT rfl
        · obtain ⟨A1, n1, c1, hu⟩ : ∃ A1 n1 c1, u = .slice A1 n1 c1 := by
            rcases hp with ⟨v2, ys2, e, hrs2, _⟩ | ⟨v2, ys2, e, hrs2, _⟩
            · obtain ⟨A1, c1, hv2⟩ := own_shape hrs2.own
              injection e with e
              exact ⟨A1, _, c1, e.trans hv2⟩
            · obtain ⟨A1, c1, hv2⟩ := own_shape hrs2.own
              injection e with e
              exact ⟨A1, _, c1, e.trans hv2⟩
          subst hu
          have e1 : A.eval (.tmp 23) = .string nv ∧ A.eval (.tmp 25) = .slice A1 n1 c1 := by
            rcases hA with rfl | ⟨_, rfl⟩ <;> exact ⟨rfl, rfl⟩
          exact ex_table (.tmp 23) (.tmp 25) nv A1 n1 c1 rfl e1.1 e1.2
        · rintro e w2 ⟨v2, ys2, rfl, hrs2, hb2, hn2⟩
          refine ⟨_, rfl, ?_⟩
          obtain ⟨A1, c1, hv2⟩ := own_shape hrs2.own
          have hl2 := hrs2.len
          rw [hl2] at hv2
          subst hv2
          have hz2 := hb2.size
          have hbg : But g w5 (w2.alloc (.cells #[.string ⟨#[]⟩, .string ⟨#[]⟩, .slice none 0 0] 46)) := (HBQ.out.trans hb2).alloc _
          have HZ : Hid ((w2.alloc (.cells #[.string ⟨#[]⟩, .string ⟨#[]⟩, .slice none 0 0] 46)).heap[w2.heap.size]? = some (.cells #[.string ⟨#[]⟩, .string ⟨#[]⟩, .slice none 0 0] 46)) := heap_alloc_new w2 _
          have hn3 : Nums (w2.alloc (.cells #[.string ⟨#[]⟩, .string ⟨#[]⟩, .slice none 0 0] 46)) g L rn := hn2.alloc _
          have hkr : Keep (w2.heap.size :: ([g] ++ blkL (.slice A xs.length cA))) (w2.alloc (.cells #[.string ⟨#[]⟩, .string ⟨#[]⟩, .slice none 0 0] 46)) fun u => RdRu u (.slice A1 rs.length c1) rs := (hrs2.keepRd (Y := [g] ++ blkL (.slice A xs.length cA)) (fun b hb => List.mem_range.2 (HXB.out b hb))).step (by simp) fun b hlt hX => ⟨Below.heap_alloc w2 _ b hlt, fun hm => by
            rcases List.mem_cons.1 hm with rfl | hm
            · omega
            · exact hX hm⟩
          have hp5 : w5.heap.size ≤ w2.heap.size := hz2
          have hpl : w2.heap.size < (w2.alloc (.cells #[.string ⟨#[]⟩, .string ⟨#[]⟩, .slice none 0 0] 46)).heap.size := by simp
          simp only [Act.put, List.setIfInBounds_toArray, List.set_cons_zero, List.set_cons_succ]
          refine wpAny_store 9 (by kernel_rfl) rfl rfl (by kernel_rfl) 46 (.tmp 7) (.tmp 26) rfl (w2.heap.size) 0 [.string nv, .string ⟨#[]⟩, .slice A1 rs.length c1] (by kernel_rfl) (by kernel_rfl) (there3 HZ) (by rw [table_size]; rfl) (tbC_oneA ⟨nv, ⟨#[]⟩, ⟨A1, rs.length, c1⟩⟩) ?_
          try simp only [Act.put, List.setIfInBounds_toArray, List.set_cons_zero, List.set_cons_succ]
          refine wpAny_done (by kernel_rfl) ?_ _
          go_wp2_with fail
          go_meet
          refine ⟨w2.heap.size, A1, c1, rfl, hp5, ?_, ?_, ?_, ?_⟩
          · exact set3_box HZ.out
          · have h1 : But g w5 ((w2.alloc (.cells #[.string ⟨#[]⟩, .string ⟨#[]⟩, .slice none 0 0] 46)).setCells (w2.heap.size) 0 [.string nv, .string ⟨#[]⟩, .slice A1 rs.length c1]) := ⟨hbg.os, hbg.tape, hbg.output, by rw [set3_sz]; exact hbg.size, fun k hk hn => (set3_but k (by omega)).trans (hbg.block k hk hn)⟩
            exact h1
          · exact nums_keepg hn3 fun k hk => set3_but k (by omega)
          · exact hkr.step (by rw [set3_sz]; exact Nat.le_refl _) fun b hlt hX => ⟨set3_but b (fun e => hX (by rw [e]; exact List.mem_cons_self ..)), hX⟩
        · rintro e w2 ⟨v2, ys2, rfl, hrs2, hb2, hn2⟩
          refine ⟨_, rfl, ?_⟩
          obtain ⟨A1, c1, hv2⟩ := own_shape hrs2.own
          have hl2 := hrs2.len
          rw [hl2] at hv2
          subst hv2
          have hz2 := hb2.size
          have hbg : But g w5 w2 := (HBQ.out.alloc _).trans hb2
          have HZ : Hid (w2.heap[w5.heap.size]? = some (.cells #[.string ⟨#[]⟩, .string ⟨#[]⟩, .slice none 0 0] 46)) := (hb2.block w5.heap.size (by simp) (by omega)).trans (heap_alloc_new w5.drew _)
          have hn3 := hn2
          have hkr : Keep (w5.heap.size :: ([g] ++ blkL (.slice A xs.length cA))) w2 fun u => RdRu u (.slice A1 rs.length c1) rs := hrs2.keepRd (fun b hb => List.mem_range.2 (by
            rcases List.mem_cons.1 hb with rfl | hb
            · simp
            · have := HXB.out b hb; simp; omega))
          have hp5 : w5.heap.size ≤ w5.heap.size := Nat.le_refl _
          have hpl : w5.heap.size < w2.heap.size := by simp at hz2; omega
          simp only [Act.put, List.setIfInBounds_toArray, List.set_cons_zero, List.set_cons_succ]
          refine wpAny_store 9 (by kernel_rfl) rfl rfl (by kernel_rfl) 46 (.tmp 7) (.tmp 26) rfl (w5.heap.size) 0 [.string nv, .string ⟨#[]⟩, .slice A1 rs.length c1] (by kernel_rfl) (by kernel_rfl) (there3 HZ) (by rw [table_size]; rfl) (tbC_oneA ⟨nv, ⟨#[]⟩, ⟨A1, rs.length, c1⟩⟩) ?_
          try simp only [Act.put, List.setIfInBounds_toArray, List.set_cons_zero, List.set_cons_succ]
          refine wpAny_done (by kernel_rfl) ?_ _
          go_wp2_with fail
          go_meet
          refine ⟨w5.heap.size, A1, c1, rfl, hp5, ?_, ?_, ?_, ?_⟩
          · exact set3_box HZ.out
          · have h1 : But g w5 (w2.setCells (w5.heap.size) 0 [.string nv, .string ⟨#[]⟩, .slice A1 rs.length c1]) := ⟨hbg.os, hbg.tape, hbg.output, by rw [set3_sz]; exact hbg.size, fun k hk hn => (set3_but k (by omega)).trans (hbg.block k hk hn)⟩
            exact h1
          · exact nums_keepg hn3 fun k hk => set3_but k (by omega)
          · exact hkr.step (by rw [set3_sz]; exact Nat.le_refl _) fun b hlt hX => ⟨set3_but b (fun e => hX (by rw [e]; exact List.mem_cons_self ..)), hX⟩
      case rest =>
        obtain ⟨p, A1, c1, rfl, hp5, HZ, HBG, HNK, HKR⟩ := hcut
        have hpl : p < wc.heap.size := (Array.getElem?_eq_some_iff.1 HZ.out).1
        have hpg : p ≠ g := by omega
        go_upto_region 9 with (go_at_call 63; refine (HCK.out _ HNK.out).mono ?_; rintro e w6 ⟨rfl, hb6, hn6⟩)
        have HZ6 : Hid (w6.heap[p]? = some (.cells #[.string nv, .string ⟨#[]⟩, .slice A1 rs.length c1] 46)) := (hb6.block p hpl hpg).trans HZ.out
        have HKR6 := Lib.hid (HKR.out.step (w' := w6) hb6.size (fun b hlt hX => ⟨hb6.block b hlt (fun e => hX (by rw [e]; exact List.mem_cons_of_mem _ (List.mem_append_left _ (List.mem_singleton.2 rfl)))), hX⟩))
        have HBG6 := Lib.hid (HBG.out.trans hb6)
        have hp6 : p < w6.heap.size := Nat.lt_of_lt_of_le hpl hb6.size
        have HQ6 : Hid (∀ k, k < 6 → w6.cell? ⟨nb, k, none⟩ = some (.string (nameW.getD k ⟨#[]⟩))) := fun k hk => (World.cell?_of_block (w := w5) (HBG6.out.block nb (by omega) hgnb)).trans ((World.cell?_of_block (w := w4) (HB.out.block nb hnb4 hgnb)).trans (HQ4.out k hk))
        have HN6 := Lib.hid hn6
        have hgm : g ∈ [g] := List.mem_singleton.2 rfl
        clear hb6 hn6 HZ HKR HBG HNK HCK HCR HQW HIA
        by_cases hk6 : k8 < 6
        · rw [if_pos hk6] at HV2
          have hk60 : (0 : Int) ≤ k8 := hz8.1
          have q8 := HQ6.out k8.toNat (by omega)
          generalize nameW.getD k8.toNat ⟨#[]⟩ = pv at q8 HV2
          have f1 := (box3 HZ6.out).2.2.2.2.1
          have y1 := (box3 HZ6.out).2.1
          go_upto_region 11 with fail
          have HZ7 : Hid ((w6.setCell ⟨p, 1, none⟩ (.string pv)).heap[p]? = some (.cells #[.string nv, .string pv, .slice A1 rs.length c1] 46)) := set_row1 HZ6.out 1 _
          have hsz7 : (w6.setCell ⟨p, 1, none⟩ (.string pv)).heap.size = w6.heap.size := by simp [World.setCell]
          have HBG7 : Hid (But g w5 (w6.setCell ⟨p, 1, none⟩ (.string pv))) := Lib.hid ⟨HBG6.out.os, HBG6.out.tape, HBG6.out.output, by rw [hsz7]; exact HBG6.out.size, fun k hk hn => (heap_setCell_other w6 _ _ _ (show k ≠ p by omega)).trans (HBG6.out.block k hk hn)⟩
          have HK7 : Hid (Keep (p :: ([g] ++ blkL (.slice A xs.length cA))) (w6.setCell ⟨p, 1, none⟩ (.string pv)) fun u => RdRu u (.slice A1 rs.length c1) rs) := Lib.hid (HKR6.out.step (by rw [hsz7]; exact Nat.le_refl _) (fun b hlt hX => ⟨heap_setCell_other _ _ _ _ (fun e => hX (by rw [e]; exact List.mem_cons_self ..)), hX⟩))
          have HN7 : Hid (Nums (w6.setCell ⟨p, 1, none⟩ (.string pv)) g L (rn + 1)) := Lib.hid (nums_keepg HN6.out fun k hk => heap_setCell_other w6 _ _ _ (show k ≠ p by omega))
          clear HZ6 HKR6 HBG6 HN6 q8 f1 y1 HQ6
          generalize w6.setCell ⟨p, 1, none⟩ (.string pv) = w7 at HZ7 HBG7 HK7 HN7 hsz7 ⊢
          have hp7 : p < w7.heap.size := by omega
          clear hsz7
          have hz7 := HBG7.out.size
          have HOA := Lib.hid ((HO.out.but hgm HBG7.out).alloc (.cells (tbC ⟨nv, pv, ⟨A1, rs.length, c1⟩⟩).toArray 46))
          have HKA : Hid (Keep ([g] ++ blkL (.slice A xs.length cA)) (w7.alloc (.cells (tbC ⟨nv, pv, ⟨A1, rs.length, c1⟩⟩).toArray 46)) fun u => RdRu u (.slice A1 rs.length c1) rs) := Lib.hid ((HK7.out.mono (fun b hb => List.mem_cons_of_mem _ hb)).step (by simp) (fun b hlt hX => ⟨Below.heap_alloc w7 _ b hlt, hX⟩))
          go_wp2_with (first
            | (refine wpList_load_row rfl 46 (.tmp 7) rfl p rfl 46 #[.string nv, .string pv, .slice A1 rs.length c1] (0, 0) _ HZ7.out Tryd.underlying46 rfl (by rw [table_size]; rfl) ?_)
            | (at_builtin; refine wpList_appAt rfl (.tmp 36) (.tmp 38) 39 46 rfl Tryd.underlying39 _ tbC 3 56 table_info rfl (by decide) tbC_len tbC_one w4.heap.size (.slice A xs.length cA) xs rfl HOA.out.own (.slice (some ⟨w7.heap.size, 0, none⟩) 1 1) [⟨nv, pv, ⟨A1, rs.length, c1⟩⟩] rfl (rdE_one_at tbC 3 tbC_len w7 _ rfl ⟨nv, pv, ⟨A1, rs.length, c1⟩⟩ 46) (by simp only [List.length_singleton]; omega) (by decide) (by simp; omega) ?_; intro v9 w9 hown9 hbel9 hgr9 hat9; obtain ⟨A9, c9, hv9⟩ := own_shape hown9; subst hv9))
          have HP9 : Hid (TR 46 [g] w4.heap.size w9 (.slice A9 (xs.length + 1) c9) (ts ++ [⟨nv, pv, rs⟩]) (xs ++ [⟨nv, pv, ⟨A1, rs.length, c1⟩⟩])) := by
            have h := HOA.out.push ⟨nv, pv, rs⟩ ⟨nv, pv, ⟨A1, rs.length, c1⟩⟩ rfl rfl HKA.out hown9 hgr9 hat9
            rw [List.length_append] at h
            exact h
          have hbn := hbel9 w4.heap.size (w7.alloc (.cells (tbC ⟨nv, pv, ⟨A1, rs.length, c1⟩⟩).toArray 46)) (Nat.le_refl _) (Below.refl _ _)
          have hbn2 := ((Below.refl w4.heap.size w7).alloc (by omega) (.cells (tbC ⟨nv, pv, ⟨A1, rs.length, c1⟩⟩).toArray 46)).trans hbn
          have HB9 : Hid (But g w4 w9) := (HB.out.trans HBG7.out).bel hbn2 (by omega)
          have HN9 : Hid (Nums w9 g L (rn + 1)) := nums_keep HN7.out hbn2 hg4
          clear hown9 hbel9 hgr9 hat9 hbn hbn2 HOA HKA HB HNU HO HK7 HN7 HZ7 HBG7
          go_wp2_with fail
          go_roundg (i - 1)
          case measure => omega
          case rel => exact ⟨ts ++ [Tb.mk nv pv rs], xs ++ [TbV.mk nv pv ⟨A1, rs.length, c1⟩], i - 1, rn + 1, by (show Value.int .i64 _ = Value.int .i64 _); congr 1; omega, HP9.out, HB9.out, HN9.out, by simp; omega, by omega, HV2.out, by omega⟩
        · rw [if_neg hk6] at HV2
          have HZ7 := HZ6
          have HBG7 := HBG6
          have HK7 := HKR6
          have HN7 := HN6
          clear HZ6 HKR6 HBG6 HN6 HQ6
          obtain ⟨w7, rfl⟩ : ∃ w7 : World, w7 = w6 := ⟨_, rfl⟩
          have hp7 := hp6
          have hz7 := HBG7.out.size
          have HOA := Lib.hid ((HO.out.but hgm HBG7.out).alloc (.cells (tbC ⟨nv, ⟨#[]⟩, ⟨A1, rs.length, c1⟩⟩).toArray 46))
          have HKA : Hid (Keep ([g] ++ blkL (.slice A xs.length cA)) (w7.alloc (.cells (tbC ⟨nv, ⟨#[]⟩, ⟨A1, rs.length, c1⟩⟩).toArray 46)) fun u => RdRu u (.slice A1 rs.length c1) rs) := Lib.hid ((HK7.out.mono (fun b hb => List.mem_cons_of_mem _ hb)).step (by simp) (fun b hlt hX => ⟨Below.heap_alloc w7 _ b hlt, hX⟩))
          go_wp2_with (first
            | (refine wpList_load_row rfl 46 (.tmp 7) rfl p rfl 46 #[.string nv, .string ⟨#[]⟩, .slice A1 rs.length c1] (0, 0) _ HZ7.out Tryd.underlying46 rfl (by rw [table_size]; rfl) ?_)
            | (at_builtin; refine wpList_appAt rfl (.tmp 36) (.tmp 38) 39 46 rfl Tryd.underlying39 _ tbC 3 56 table_info rfl (by decide) tbC_len tbC_one w4.heap.size (.slice A xs.length cA) xs rfl HOA.out.own (.slice (some ⟨w7.heap.size, 0, none⟩) 1 1) [⟨nv, ⟨#[]⟩, ⟨A1, rs.length, c1⟩⟩] rfl (rdE_one_at tbC 3 tbC_len w7 _ rfl ⟨nv, ⟨#[]⟩, ⟨A1, rs.length, c1⟩⟩ 46) (by simp only [List.length_singleton]; omega) (by decide) (by simp; omega) ?_; intro v9 w9 hown9 hbel9 hgr9 hat9; obtain ⟨A9, c9, hv9⟩ := own_shape hown9; subst hv9))
          have HP9 : Hid (TR 46 [g] w4.heap.size w9 (.slice A9 (xs.length + 1) c9) (ts ++ [⟨nv, ⟨#[]⟩, rs⟩]) (xs ++ [⟨nv, ⟨#[]⟩, ⟨A1, rs.length, c1⟩⟩])) := by
            have h := HOA.out.push ⟨nv, ⟨#[]⟩, rs⟩ ⟨nv, ⟨#[]⟩, ⟨A1, rs.length, c1⟩⟩ rfl rfl HKA.out hown9 hgr9 hat9
            rw [List.length_append] at h
            exact h
          have hbn := hbel9 w4.heap.size (w7.alloc (.cells (tbC ⟨nv, ⟨#[]⟩, ⟨A1, rs.length, c1⟩⟩).toArray 46)) (Nat.le_refl _) (Below.refl _ _)
          have hbn2 := ((Below.refl w4.heap.size w7).alloc (by omega) (.cells (tbC ⟨nv, ⟨#[]⟩, ⟨A1, rs.length, c1⟩⟩).toArray 46)).trans hbn
          have HB9 : Hid (But g w4 w9) := (HB.out.trans HBG7.out).bel hbn2 (by omega)
          have HN9 : Hid (Nums w9 g L (rn + 1)) := nums_keep HN7.out hbn2 hg4
          clear hown9 hbel9 hgr9 hat9 hbn hbn2 HOA HKA HB HNU HO HK7 HN7 HZ7 HBG7
          go_wp2_with fail
          go_roundg (i - 1)
          case measure => omega
          case rel => exact ⟨ts ++ [Tb.mk nv ⟨#[]⟩ rs], xs ++ [TbV.mk nv ⟨#[]⟩ ⟨A1, rs.length, c1⟩], i - 1, rn + 1, by (show Value.int .i64 _ = Value.int .i64 _); congr 1; omega, HP9.out, HB9.out, HN9.out, by simp; omega, by omega, HV2.out, by omega⟩
    · obtain rfl : i = 0 := by omega
      go_wp2_with fail
      have e : TT = ts := HV.out.symm
      rw [HTR.out, e]
      exact ⟨_, rfl, HO.out.rd, by rw [hg]; exact HB4.out.trans (But.below (B := g) HB.out (Nat.le_refl _) (by omega))⟩


end Go.Proofs.YtpboaadjbkaidaaDoor

namespace Go.Proofs.YtpboaadjbkaidaaDoor
set_option maxRecDepth 100000
open Go.RowKit

def BoolRet (w : World) (e : Ending) (w' : World) : Prop := ∃ b, e = .returned (.bool b) ∧ Below w.heap.size w w'
theorem wrap_le (j : Nat) (h : j + 1 ≤ 9223372036854775807) : wrap64 ((j : Int) + 1) = (j : Int) + 1 := by
  unfold wrap64
  omega
set_option maxRecDepth 100000 in
set_option maxHeartbeats 8000000 in
theorem light_any (ts : List Tb) (v : Value) (w : World) (ht : RdTb w v ts) (hin : TbIn ts) (hrl : ∀ t ∈ ts, t.rs.length ≤ maxLen) : Calls Tryd.prog 25 #[v] w (BoolRet w) := by
  obtain ⟨R, HRR⟩ : ∃ R, Hid (R = BoolRet w) := ⟨_, rfl⟩
  rw [← HRR.out]
  obtain ⟨xs, hx0, hxl, hx⟩ := ht
  have hxa : xs.length ≤ ts.length := Nat.le_of_eq hxl
  have hxb : ts.length ≤ xs.length := Nat.le_of_eq hxl.symm
  obtain ⟨A, c, hv, hlc, _⟩ := hx0.shape
  subst hv
  have HX := Lib.hid hx0
  have HXR := Lib.hid hx
  have HLB : Hid (xs.length ≤ 9223372036854775807) := by show _ ≤ _; have := hin.1; unfold maxLen at this; omega
  have HRL := Lib.hid hrl
  clear hx0 hx hxl hin hrl
  have hur := Tryd.underlying30
  have hir : (Tryd.prog.info? 30).map (·.size) = some 3 := by kernel_rfl
  go_enter Tryd.func25, Tryd.ntmps25
  go_wp2_with fail
  obtain ⟨wo, HWO⟩ : ∃ wo, Hid (wo = w) := ⟨w, rfl⟩
  go_loopg [3, 4, 9] xs.length (fun gk nv iv kv wr => ∃ (k : Nat) (n : Int), kv = .int .i64 k ∧ nv = .int .i64 n ∧ k ≤ xs.length ∧ Hid (Below w.heap.size w wr) ∧ xs.length - k ≤ gk)
  case atStart => exact ⟨0, 0, rfl, rfl, by omega, Below.refl _ _, by omega⟩
  case round =>
    clear HWO
    obtain ⟨k, n, rfl, rfl, hk, HB, hgk⟩ := hrel
    by_cases hkl : k < xs.length
    · have hki : (k : Int) < (xs.length : Int) := by omega
      have hk0 : (0 : Int) ≤ (k : Int) := by omega
      obtain ⟨b, o, rfl, hbl, hcell⟩ := HX.out.cells (by omega)
      have hkt : k < ts.length := by omega
      have hxk : xs[k]? = some xs[k] := List.getElem?_eq_getElem hkl
      have htk : ts[k]? = some (ts[k]'hkt) := List.getElem?_eq_getElem hkt
      have q0 := (HB.out.cell (p := ⟨b, o + (k * 3 + 0), none⟩) hbl).trans (hcell k _ 0 _ hxk rfl)
      have q1 := (HB.out.cell (p := ⟨b, o + (k * 3 + 1), none⟩) hbl).trans (hcell k _ 1 _ hxk rfl)
      have q2 := (HB.out.cell (p := ⟨b, o + (k * 3 + 2), none⟩) hbl).trans (hcell k _ 2 _ hxk rfl)
      rw [show o + (k * 3 + 0) = o + k * 3 by omega] at q0
      rw [show o + (k * 3 + 1) = o + k * 3 + 1 by omega] at q1
      rw [show o + (k * 3 + 2) = o + k * 3 + 2 by omega] at q2
      obtain ⟨_, _, hru⟩ := HXR.out k _ _ hxk htk
      obtain ⟨rxs, hrx, hrl, hre⟩ := hru
      have HRX := Lib.hid hrx
      have HRB : Hid (rxs.length ≤ 9223372036854775807) := by show _ ≤ _; have := HRL.out _ (List.getElem_mem hkt); unfold maxLen at this; omega
      clear hcell hxk htk hre
      generalize xs[k] = x at q0 q1 q2 HRX
      obtain ⟨nm, pa, ⟨rA, rn, rc⟩⟩ := x
      change wr.cell? _ = some (.slice rA rn rc) at q2
      change Hid (RdE ruC 3 w (.slice rA rn rc) rxs) at HRX
      obtain ⟨rA', rc', hrs, _⟩ := HRX.out.shape
      have hrn : rn = rxs.length := by injection hrs
      subst hrn
      clear hrs hrl
      change wr.cell? _ = some (.string nm) at q0
      change wr.cell? _ = some (.string pa) at q1
      have hz := HB.out.size
      have hbw : b < wr.heap.size := Nat.lt_of_lt_of_le hbl hz
      go_upto_region 5 with fail
      go_quiet (fail)
      go_wp2_with fail
      obtain ⟨wo, HWO⟩ : ∃ wo, Hid (wo = wr) := ⟨wr, rfl⟩
      go_loopg [3, 33] rxs.length (fun gk nv jv wr2 => ∃ (j : Nat) (n : Int), jv = .int .i64 j ∧ nv = .int .i64 n ∧ j ≤ rxs.length ∧ Hid (Below w.heap.size w wr2) ∧ rxs.length - j ≤ gk)
      case atStart => exact ⟨0, _, rfl, rfl, by omega, below_drewN HB.out _, by omega⟩
      case round =>
        clear HB HWO q0 q1 q2
        obtain ⟨j, n, rfl, rfl, hj, HB, hgk2⟩ := hrel
        by_cases hjl : j < rxs.length
        · have hji : (j : Int) < (rxs.length : Int) := by omega
          have hj0 : (0 : Int) ≤ (j : Int) := by omega
          obtain ⟨b2, o2, hA2, hb2, hc2⟩ := HRX.out.cells (by omega)
          subst hA2
          have hyk : rxs[j]? = some rxs[j] := List.getElem?_eq_getElem hjl
          have hrg2 : wr.rangeAt b2 (o2 + j * 3) (ruC rxs[j]) := fun i v hi => by
            rw [Nat.add_assoc]
            exact (HB.out.cell (p := ⟨b2, o2 + (j * 3 + i), none⟩) hb2).trans (hc2 j _ i v hyk hi)
          clear hc2 hyk
          generalize rxs[j] = y at hrg2
          obtain ⟨yb, ⟨uA, un, uc⟩, ⟨tA, tn, tc⟩⟩ := y
          have hz3 := HB.out.size
          have HQ : Hid (((wr.alloc (.cells #[.bool false, .slice none 0 0, .slice none 0 0] 30)).setRow wr.heap.size (ruC ⟨yb, ⟨uA, un, uc⟩, ⟨tA, tn, tc⟩⟩).toArray).heap[wr.heap.size]? = some (.cells (ruC ⟨yb, ⟨uA, un, uc⟩, ⟨tA, tn, tc⟩⟩).toArray 30)) := setRow_heap _ _ _ _ _ _ (heap_alloc_new wr _)
          have HB4 : Hid (Below w.heap.size w ((wr.alloc (.cells #[.bool false, .slice none 0 0, .slice none 0 0] 30)).setRow wr.heap.size (ruC ⟨yb, ⟨uA, un, uc⟩, ⟨tA, tn, tc⟩⟩).toArray)) := below_setRow (HB.out.alloc hz3 _) hz3 _
          go_upto_region 9 with (first
            | (refine wpList_load_mid rfl 30 (.tmp 35) rfl b2 (o2 + j * 3) rfl (ruC ⟨yb, ⟨uA, un, uc⟩, ⟨tA, tn, tc⟩⟩) _ hrg2 hur rfl (by rw [hir]; rfl) ?_)
            | (refine wpList_store_row rfl 30 (.tmp 6) (.tmp 36) rfl (wr.heap.size) (ruC ⟨yb, ⟨uA, un, uc⟩, ⟨tA, tn, tc⟩⟩).toArray rfl rfl 30 _ (heap_alloc_new wr _) (by rw [hir]; rfl) rfl (ruC_oneA _) ?_))
          clear hrg2 HB
          generalize wr.heap.size = q at HQ HB4 ⊢
          generalize (wr.alloc (.cells #[.bool false, .slice none 0 0, .slice none 0 0] 30)).setRow q (ruC ⟨yb, ⟨uA, un, uc⟩, ⟨tA, tn, tc⟩⟩).toArray = w6 at HQ HB4 ⊢
          have p1 : w6.cell? ⟨q, 1, none⟩ = some (.slice uA un uc) := by rw [cell_of_row _ _ _ _ _ _ HQ.out]; rfl
          have p2 : w6.cell? ⟨q, 2, none⟩ = some (.slice tA tn tc) := by rw [cell_of_row _ _ _ _ _ _ HQ.out]; rfl
          go_wp2_with fail
          go_roundg (rxs.length - (j + 1))
          case measure => omega
          case rel => exact ⟨j + 1, _, by rw [wrap_le j (by have := HRB.out; omega)]; go_num, rfl, by omega, HB4.out, Nat.le_refl _⟩
        · obtain rfl : j = rxs.length := by omega
          have hji : ¬ (rxs.length : Int) < (rxs.length : Int) := by omega
          go_wp2_with fail
          go_roundg (xs.length - (k + 1))
          case measure => omega
          case rel => exact ⟨k + 1, _, by rw [wrap_le k (by have := HLB.out; omega)]; go_num, rfl, by omega, HB.out, Nat.le_refl _⟩
    · obtain rfl : k = xs.length := by omega
      have hki : ¬ (xs.length : Int) < (xs.length : Int) := by omega
      by_cases h20 : xs.length ≤ 20
      · have h20i : (xs.length : Int) ≤ 20 := by omega
        go_wp2_with fail
        rw [HRR.out]
        exact ⟨_, rfl, HB.out⟩
      · have h20i : ¬ (xs.length : Int) ≤ 20 := by omega
        go_wp2_with fail
        rw [HRR.out]
        exact ⟨_, rfl, HB.out⟩

end Go.Proofs.YtpboaadjbkaidaaDoor

namespace Go.Proofs.YtpboaadjbkaidaaDoor
set_option maxRecDepth 100000
open Go.ChangeShapes Go.WideShapes Go.ChangeAt Go.RowKit Go.Deep Go.Joins

/-- What an argument's atom keeps to. -/
def AtOk (x : At) : Prop := -9223372036854775808 ≤ x.mn ∧ x.mn ≤ 9223372036854775807

/-- The set that 32 bytes hold. -/
def bitsOf (g : Nat → Nat) (n : Nat) : Bool := g (n / 8) / 2 ^ (n % 8) % 2 == 1
theorem byteOf_bits (g : Nat → Nat) (hg : ∀ k, g k < 256) (k : Nat) : byteOf (bitsOf g) k = g k := by
  refine byte_ext (byteOf_lt _ k) (hg k) fun j hj => ?_
  rw [byteOf_bit _ k j hj]
  unfold b2n bitsOf
  rw [show (8 * k + j) / 8 = k by omega, show (8 * k + j) % 8 = j by omega]
  have : g k / 2 ^ j % 2 < 2 := Nat.mod_lt _ (by decide)
  by_cases h : g k / 2 ^ j % 2 = 1
  · rw [h]; rfl
  · rw [if_neg (by simpa using h)]
    omega

section
variable {H : Type} {enc : TypeId × Value → H} {w : World} {base : Nat} {spare : Nat → Bool} {held : Bool}
theorem trod_atom {n : Nat} {cs : List Value} {x : DataW H × List MemPlace} (h : DataW.trod enc Tryd.prog w base spare held n 26 cs = some x) : ∃ y : At, cs = atC y ∧ AtOk y := by
  obtain ⟨xs, m, _, _, hcl, hxl, hf⟩ := DataW.trod_struct Tryd.underlying26 h
  have hC : Tryd.prog.cellsOf 26 = 34 := by kernel_rfl
  rw [hC] at hcl
  have hl3 : xs.length = 3 := hxl
  obtain ⟨x0, x1, x2, rfl⟩ : ∃ x0 x1 x2, xs = [x0, x1, x2] := by
    match xs, hl3 with
    | [a, b, c], _ => exact ⟨a, b, c, rfl⟩
  have g0 : DataW.trod enc Tryd.prog w base spare held m 24 ((cs.drop 0).take (Tryd.prog.cellsOf 24)) = some x0 := hf 0 _ rfl
  have g1 : DataW.trod enc Tryd.prog w base spare held m 3 ((cs.drop 32).take (Tryd.prog.cellsOf 3)) = some x1 := hf 1 _ rfl
  have g2 : DataW.trod enc Tryd.prog w base spare held m 4 ((cs.drop 33).take (Tryd.prog.cellsOf 4)) = some x2 := hf 2 _ rfl
  rw [show Tryd.prog.cellsOf 24 = 32 by kernel_rfl, List.drop_zero] at g0
  rw [show Tryd.prog.cellsOf 3 = 1 by kernel_rfl] at g1
  rw [show Tryd.prog.cellsOf 4 = 1 by kernel_rfl] at g2
  obtain ⟨ys, m2, _, _, _, hyl, hy⟩ := DataW.trod_array Tryd.underlying24 g0
  obtain ⟨mn, e1, _, w1⟩ := DataW.trod_int Tryd.underlying3 g1
  obtain ⟨mb, e2, _⟩ := DataW.trod_bool Tryd.underlying4 g2
  have hb : ∀ i, i < 32 → ∃ z : Nat, z < 256 ∧ (cs.drop i).take 1 = [.int .u8 (z : Int)] := fun i hi => by
    have h1 := hy i hi
    rw [show Tryd.prog.cellsOf 5 = 1 by kernel_rfl, Nat.mul_one, List.getElem?_eq_getElem (by omega)] at h1
    obtain ⟨z, e3, _, w3⟩ := DataW.trod_int Tryd.underlying5 h1
    have hz : 0 ≤ z ∧ z < 256 := by
      simp [Lit.wf, IntKind.min, IntKind.max, IntKind.signed, IntKind.bits] at w3
      omega
    refine ⟨z.toNat, by omega, ?_⟩
    rw [show ((z.toNat : Nat) : Int) = z by omega, ← e3, List.drop_take, List.take_take, show min 1 (32 - i) = 1 by omega]
  refine ⟨⟨bitsOf (fun k => if h : k < 32 then Classical.choose (hb k h) else 0), mn, mb⟩, ?_, wf_i64 w1⟩
  refine List.ext_getElem? fun k => ?_
  rcases (show k < 32 ∨ k = 32 ∨ k = 33 ∨ 34 ≤ k by omega) with h | rfl | rfl | h
  · rw [atC_set _ k h, byteOf_bits _ (fun k => by
      by_cases h : k < 32
      · simp only [dif_pos h]; exact (Classical.choose_spec (hb k h)).1
      · simp only [dif_neg h]; decide) k]
    simp only [dif_pos h]
    have := (Classical.choose_spec (hb k h)).2
    have h2 := congrArg (fun l => l[0]?) this
    simpa using h2
  · rw [atC_mn]
    have h2 := congrArg (fun l => l[0]?) e1
    simpa using h2
  · rw [atC_many]
    have h2 := congrArg (fun l => l[0]?) e2
    simpa using h2
  · rw [List.getElem?_eq_none (by omega), List.getElem?_eq_none (by rw [atC_len]; exact h)]
theorem open_atoms {r : Reach} {b0 : Nat} {v : Value} {d : DataW H} {p : List MemPlace} (hv : Value.okWide Tryd.prog w r b0 28 v) (h : DataW.Trod enc Tryd.prog w base spare held 28 v d p) :
    ∃ (A : Option Addr) (n c : Nat) (l : List At), v = .slice A n c ∧ n = l.length ∧ l.length ≤ maxLen ∧ RdE atC 34 w (.slice A n c) l ∧ ∀ x ∈ l, AtOk x :=
  open_rows atC 34 AtOk Tryd.underlying28 (by kernel_rfl) atC_len (by decide) (fun _ _ _ h => trod_atom h) hv h
end

end Go.Proofs.YtpboaadjbkaidaaDoor

namespace Go.Proofs.YtpboaadjbkaidaaDoor
set_option maxRecDepth 100000
open Go.ChangeShapes Go.WideShapes Go.ChangeAt Go.RowKit Go.Deep Go.Joins

theorem choose_list {α β : Type} (R : α → β → Prop) : ∀ xs : List α, (∀ x ∈ xs, ∃ y, R x y) → ∃ l : List β, xs.length = l.length ∧ ∀ (i : Nat) (x : α) (y : β), xs[i]? = some x → l[i]? = some y → R x y
  | [], _ => ⟨[], rfl, fun _ _ _ h => by simp at h⟩
  | x :: xs, h => by
    obtain ⟨y, hy⟩ := h x (by simp)
    obtain ⟨l, h1, h2⟩ := choose_list R xs fun z hz => h z (by simp [hz])
    refine ⟨y :: l, by simp [h1], fun i a b ha hb => ?_⟩
    cases i with
    | zero =>
      injection ha with ha
      injection hb with hb
      subst ha hb
      exact hy
    | succ i => exact h2 i a b (by simpa using ha) (by simpa using hb)
section
variable {H : Type} {enc : TypeId × Value → H} {P : Program} {w : World} {base : Nat} {spare : Nat → Bool} {held : Bool}
theorem trod_rows {α : Type} (f : α → List Value) (m : Nat) (good : α → Prop) {t e : TypeId} {n0 : Nat} {cs : List Value} {x0 : DataW H × List MemPlace} (ht : P.underlying t = some (.slice e)) (hC : P.cellsOf e = m) (hm : ∀ x, (f x).length = m) (hm0 : 0 < m)
    (hel : ∀ n cs x, DataW.trod enc P w base spare held n e cs = some x → ∃ y : α, cs = f y ∧ good y) (hf : DataW.trod enc P w base spare held n0 t cs = some x0) :
    ∃ (A : Option Addr) (n c : Nat) (l : List α), cs = [.slice A n c] ∧ n = l.length ∧ l.length ≤ maxLen ∧ RdE f m w (.slice A n c) l ∧ ∀ x ∈ l, good x := by
  rcases open_slice ht hf with ⟨h0, _⟩ | ⟨a, n, c, k, n', D, Pl, hcs, _, hl, hmx, hk, _, hi⟩
  · exact ⟨none, 0, 0, [], h0, rfl, by simp, RdE.nil, by simp⟩
  · have hlk : n ≤ k := by rw [hk]; split <;> omega
    have hall : ∀ i : Fin n, ∃ y : α, good y ∧ ∀ (j : Nat) (u : Value), (f y)[j]? = some u → w.cell? (a.add (i.val * m + j)) = some u := by
      intro i
      obtain ⟨cs', hc, htr⟩ := hi i.val (by omega)
      obtain ⟨y, rfl, hy⟩ := hel _ _ _ htr
      refine ⟨y, hy, fun j u hju => ?_⟩
      obtain ⟨_, hcl, hat⟩ := World.cells?_some hc
      have hjm : j < m := by rw [← hm y]; exact (List.getElem?_eq_some_iff.1 hju).1
      have := hat j (by rw [hC]; exact hjm)
      rw [hju, hC, Go.Deep.add_add] at this
      exact this
    refine ⟨some a, n, c, List.ofFn fun i => Classical.choose (hall i), hcs, by simp, by simp; omega, ?_, ?_⟩
    · refine ⟨some a, c, by simp, by simp; omega, (fun h => by cases h), fun h0 => ?_⟩
      have hn0 : 0 < n := by simpa using h0
      have hc0 := Classical.choose_spec (hall ⟨0, hn0⟩)
      have h00 : (f (Classical.choose (hall ⟨0, hn0⟩)))[0]? = some _ := List.getElem?_eq_getElem (by rw [hm]; omega)
      have hcell0 := hc0.2 0 _ h00
      obtain ⟨b, o, sp⟩ := a
      have hsp : sp = none := by simpa [Addr.add] using World.cell?_spot hcell0
      subst hsp
      have hbl : b < w.heap.size := by
        unfold World.cell? at hcell0
        split at hcell0
        · rename_i hh
          have := (Array.getElem?_eq_some_iff.1 hh).1
          rw [Addr.add_lit] at this
          exact this
        · cases hcell0
      refine ⟨b, o, rfl, hbl, fun i x j u hx hu => ?_⟩
      rw [List.getElem?_ofFn] at hx
      split at hx
      · rename_i hin
        injection hx with hx
        subst hx
        have := (Classical.choose_spec (hall ⟨i, hin⟩)).2 j u hu
        rw [Addr.add_lit] at this
        exact this
      · cases hx
    · intro x hx
      obtain ⟨i, rfl⟩ := List.mem_ofFn.1 hx
      exact (Classical.choose_spec (hall i)).1
end
section
variable {H : Type} {enc : TypeId × Value → H} {w : World} {base : Nat} {spare : Nat → Bool} {held : Bool}
theorem trod_rule {n : Nat} {cs : List Value} {x : DataW H × List MemPlace} (h : DataW.trod enc Tryd.prog w base spare held n 30 cs = some x) : ∃ y : RuV, cs = ruC y ∧ ∃ r : Ru, y.b = r.br ∧ RdE atC 34 w y.u.v r.bf ∧ RdE atC 34 w y.t.v r.af := by
  obtain ⟨xs, m, _, _, hcl, hxl, hf⟩ := DataW.trod_struct Tryd.underlying30 h
  have hC : Tryd.prog.cellsOf 30 = 3 := by kernel_rfl
  rw [hC] at hcl
  have hl3 : xs.length = 3 := hxl
  obtain ⟨c0, c1, c2, rfl⟩ : ∃ c0 c1 c2, cs = [c0, c1, c2] := by
    match cs, hcl with
    | [a, b, c], _ => exact ⟨a, b, c, rfl⟩
  obtain ⟨x0, x1, x2, rfl⟩ : ∃ x0 x1 x2, xs = [x0, x1, x2] := by
    match xs, hl3 with
    | [a, b, c], _ => exact ⟨a, b, c, rfl⟩
  have g0 : DataW.trod enc Tryd.prog w base spare held m 4 (([c0, c1, c2].drop 0).take (Tryd.prog.cellsOf 4)) = some x0 := hf 0 _ rfl
  have g1 : DataW.trod enc Tryd.prog w base spare held m 28 (([c0, c1, c2].drop 1).take (Tryd.prog.cellsOf 28)) = some x1 := hf 1 _ rfl
  have g2 : DataW.trod enc Tryd.prog w base spare held m 28 (([c0, c1, c2].drop 2).take (Tryd.prog.cellsOf 28)) = some x2 := hf 2 _ rfl
  rw [show Tryd.prog.cellsOf 4 = 1 by kernel_rfl] at g0
  rw [show Tryd.prog.cellsOf 28 = 1 by kernel_rfl] at g1 g2
  obtain ⟨a0, e0, _⟩ := DataW.trod_bool Tryd.underlying4 g0
  obtain ⟨A1, n1, d1, l1, e1, hn1, _, h1, _⟩ := trod_rows atC 34 AtOk Tryd.underlying28 (by kernel_rfl) atC_len (by decide) (fun _ _ _ h => trod_atom h) g1
  obtain ⟨A2, n2, d2, l2, e2, hn2, _, h2, _⟩ := trod_rows atC 34 AtOk Tryd.underlying28 (by kernel_rfl) atC_len (by decide) (fun _ _ _ h => trod_atom h) g2
  simp at e0 e1 e2
  subst e0 e1 e2
  exact ⟨⟨a0, ⟨A1, n1, d1⟩, ⟨A2, n2, d2⟩⟩, rfl, ⟨a0, l1, l2⟩, rfl, h1, h2⟩
theorem trod_table {n : Nat} {cs : List Value} {x : DataW H × List MemPlace} (h : DataW.trod enc Tryd.prog w base spare held n 46 cs = some x) : ∃ y : TbV, cs = tbC y ∧ ∃ t : Tb, ((t.nm.size ≤ maxLen ∧ t.pa.size ≤ maxLen) ∧ t.rs.length ≤ maxLen) ∧ y.nm = t.nm ∧ y.pa = t.pa ∧ RdRu w y.r.v t.rs := by
  obtain ⟨xs, m, _, _, hcl, hxl, hf⟩ := DataW.trod_struct Tryd.underlying46 h
  have hC : Tryd.prog.cellsOf 46 = 3 := by kernel_rfl
  rw [hC] at hcl
  have hl3 : xs.length = 3 := hxl
  obtain ⟨c0, c1, c2, rfl⟩ : ∃ c0 c1 c2, cs = [c0, c1, c2] := by
    match cs, hcl with
    | [a, b, c], _ => exact ⟨a, b, c, rfl⟩
  obtain ⟨x0, x1, x2, rfl⟩ : ∃ x0 x1 x2, xs = [x0, x1, x2] := by
    match xs, hl3 with
    | [a, b, c], _ => exact ⟨a, b, c, rfl⟩
  have g0 : DataW.trod enc Tryd.prog w base spare held m 9 (([c0, c1, c2].drop 0).take (Tryd.prog.cellsOf 9)) = some x0 := hf 0 _ rfl
  have g1 : DataW.trod enc Tryd.prog w base spare held m 9 (([c0, c1, c2].drop 1).take (Tryd.prog.cellsOf 9)) = some x1 := hf 1 _ rfl
  have g2 : DataW.trod enc Tryd.prog w base spare held m 31 (([c0, c1, c2].drop 2).take (Tryd.prog.cellsOf 31)) = some x2 := hf 2 _ rfl
  rw [show Tryd.prog.cellsOf 9 = 1 by kernel_rfl] at g0 g1
  rw [show Tryd.prog.cellsOf 31 = 1 by kernel_rfl] at g2
  obtain ⟨a0, e0, _, w0⟩ := DataW.trod_string Tryd.underlying9 g0
  obtain ⟨a1, e1, _, w1⟩ := DataW.trod_string Tryd.underlying9 g1
  obtain ⟨A2, n2, d2, l2, e2, hn2, hm2, h2, hg2⟩ := trod_rows ruC 3 (fun y => ∃ r : Ru, y.b = r.br ∧ RdE atC 34 w y.u.v r.bf ∧ RdE atC 34 w y.t.v r.af) Tryd.underlying31 (by kernel_rfl) ruC_len (by decide) (fun _ _ _ h => trod_rule h) g2
  obtain ⟨rs, hrs, hre⟩ := choose_list (fun (y : RuV) (r : Ru) => y.b = r.br ∧ RdE atC 34 w y.u.v r.bf ∧ RdE atC 34 w y.t.v r.af) l2 hg2
  simp at e0 e1 e2
  subst e0 e1 e2
  exact ⟨⟨a0, a1, ⟨A2, n2, d2⟩⟩, rfl, ⟨a0, a1, rs⟩, ⟨⟨w0, w1⟩, by show rs.length ≤ maxLen; omega⟩, rfl, rfl, l2, h2, hrs, hre⟩
theorem open_tabs {r : Reach} {b0 : Nat} {v : Value} {d : DataW H} {p : List MemPlace} (hv : Value.okWide Tryd.prog w r b0 39 v) (h : DataW.Trod enc Tryd.prog w base spare held 39 v d p) :
    ∃ (A : Option Addr) (n c : Nat) (l : List Tb), v = .slice A n c ∧ n = l.length ∧ TbIn l ∧ RdTb w (.slice A n c) l ∧ ∀ t ∈ l, t.rs.length ≤ maxLen := by
  obtain ⟨A, n, c, xs, rfl, hn, hm, hx, hg⟩ := open_rows tbC 3 (fun y => ∃ t : Tb, ((t.nm.size ≤ maxLen ∧ t.pa.size ≤ maxLen) ∧ t.rs.length ≤ maxLen) ∧ y.nm = t.nm ∧ y.pa = t.pa ∧ RdRu w y.r.v t.rs) Tryd.underlying39 (by kernel_rfl) tbC_len (by decide) (fun _ _ _ h => trod_table h) hv h
  obtain ⟨ts, hts, hte⟩ := choose_list (fun (y : TbV) (t : Tb) => ((t.nm.size ≤ maxLen ∧ t.pa.size ≤ maxLen) ∧ t.rs.length ≤ maxLen) ∧ y.nm = t.nm ∧ y.pa = t.pa ∧ RdRu w y.r.v t.rs) xs hg
  have hall : ∀ t ∈ ts, (t.nm.size ≤ maxLen ∧ t.pa.size ≤ maxLen) ∧ t.rs.length ≤ maxLen := fun t ht => by
    obtain ⟨i, hi⟩ := List.getElem?_of_mem ht
    have hi2 : i < xs.length := by rw [hts]; exact (List.getElem?_eq_some_iff.1 hi).1
    exact (hte i xs[i] t (List.getElem?_eq_getElem hi2) hi).1
  exact ⟨A, n, c, ts, rfl, by omega, ⟨by omega, fun t ht => (hall t ht).1⟩, ⟨xs, hx, hts, fun i x t h1 h2 => (hte i x t h1 h2).2⟩, fun t ht => (hall t ht).2⟩
end

end Go.Proofs.YtpboaadjbkaidaaDoor

namespace Go.Proofs.YtpboaadjbkaidaaDoor
set_option maxRecDepth 100000

def tbD : Tb := ⟨⟨#[]⟩, ⟨#[]⟩, []⟩
/-- f: how many tables may still be taken. -/
def resGo (ts : List Tb) : Nat → ByteArray → List Ru → List Ru × Int
  | 0, nm, _ => if findF ts nm 0 < 0 then ([], 4) else ([], 3)
  | f + 1, nm, out =>
    if findF ts nm 0 < 0 then ([], 4)
    else if (ts.getD (findF ts nm 0).toNat tbD).pa.data.toList = [] then (out ++ (ts.getD (findF ts nm 0).toNat tbD).rs, 0)
    else resGo ts f (ts.getD (findF ts nm 0).toNat tbD).pa (out ++ (ts.getD (findF ts nm 0).toNat tbD).rs)
def resF (ts : List Tb) (nm : ByteArray) : List Ru × Int := if validT ts ≠ 0 then ([], validT ts) else resGo ts 4 nm []
theorem findF_lt : ∀ (ts : List Tb) (nm : ByteArray) (k : Nat), findF ts nm k = -1 ∨ ((k : Int) ≤ findF ts nm k ∧ findF ts nm k < (k : Int) + ts.length)
  | [], _, _ => .inl rfl
  | t :: ts, nm, k => by
    rw [findF]
    split
    · right; simp; omega
    · rcases findF_lt ts nm (k + 1) with h | ⟨h1, h2⟩
      · exact .inl h
      · right; simp; omega
theorem findF_bd (ts : List Tb) (nm : ByteArray) (h : ¬ findF ts nm 0 < 0) : ∃ i : Nat, findF ts nm 0 = (i : Int) ∧ i < ts.length := by
  rcases findF_lt ts nm 0 with e | ⟨h1, h2⟩
  · omega
  · exact ⟨(findF ts nm 0).toNat, by omega, by omega⟩
theorem validF_len (p : List At) (h : validF p = 0) : p.length ≤ 32 := by
  unfold validF at h
  split at h
  · cases h
  · omega
theorem rulesV_len : ∀ rs : List Ru, rulesV rs = 0 → ∀ r ∈ rs, r.bf.length ≤ 32 ∧ r.af.length ≤ 32
  | [], _, r, h => by simp at h
  | r :: rs, h, x, hx => by
    rw [rulesV] at h
    split at h
    · rename_i h1; exact absurd h h1
    · rename_i h1
      split at h
      · rename_i h2; exact absurd h h2
      · rename_i h2
        rcases List.mem_cons.1 hx with rfl | hx
        · exact ⟨validF_len _ (by simpa using h1), validF_len _ (by simpa using h2)⟩
        · exact rulesV_len rs h x hx
theorem validGo_len : ∀ (ts seen : List Tb), validGo seen ts = 0 → ∀ t ∈ ts, t.rs.length ≤ 32 ∧ ∀ r ∈ t.rs, r.bf.length ≤ 32 ∧ r.af.length ≤ 32
  | [], _, _, t, h => by simp at h
  | t :: ts, seen, h, x, hx => by
    rw [validGo] at h
    split at h
    · cases h
    · split at h
      · cases h
      · split at h
        · cases h
        · rename_i h32
          split at h
          · rename_i h2; exact absurd h h2
          · rename_i h2
            rcases List.mem_cons.1 hx with rfl | hx
            · exact ⟨by omega, rulesV_len _ (by simpa using h2)⟩
            · exact validGo_len ts _ h x hx
theorem validT_len (ts : List Tb) (h : validT ts = 0) : ts.length ≤ 16 ∧ ∀ t ∈ ts, t.rs.length ≤ 32 ∧ ∀ r ∈ t.rs, r.bf.length ≤ 32 ∧ r.af.length ≤ 32 := by
  unfold validT at h
  split at h
  · cases h
  · exact ⟨by omega, validGo_len ts [] h⟩
/-- Rules that are small. -/
def RuLit (n : Nat) (rs : List Ru) : Prop := rs.length ≤ n ∧ ∀ r ∈ rs, r.bf.length ≤ 32 ∧ r.af.length ≤ 32
theorem resGo_lit (ts : List Tb) (h : ∀ t ∈ ts, t.rs.length ≤ 32 ∧ ∀ r ∈ t.rs, r.bf.length ≤ 32 ∧ r.af.length ≤ 32) : ∀ (f : Nat) (nm : ByteArray) (out : List Ru) (n : Nat), RuLit n out → RuLit (n + 32 * f) (resGo ts f nm out).1
  | 0, nm, out, n, ho => by
    rw [resGo]
    split <;> exact ⟨Nat.zero_le _, fun _ h => by simp at h⟩
  | f + 1, nm, out, n, ho => by
    rw [resGo]
    split
    · exact ⟨Nat.zero_le _, fun _ h => by simp at h⟩
    · rename_i hf
      obtain ⟨i, hi, hl⟩ := findF_bd ts nm hf
      have hm : (ts.getD (findF ts nm 0).toNat tbD) ∈ ts := by
        rw [hi, Int.toNat_natCast, List.getD_eq_getElem?_getD, List.getElem?_eq_getElem hl]
        exact List.getElem_mem hl
      have ht := h _ hm
      have hn : RuLit (n + 32) (out ++ (ts.getD (findF ts nm 0).toNat tbD).rs) := by
        refine ⟨by rw [List.length_append]; have := ho.1; have := ht.1; omega, fun r hr => ?_⟩
        rcases List.mem_append.1 hr with hr | hr
        · exact ho.2 r hr
        · exact ht.2 r hr
      split
      · exact ⟨Nat.le_trans hn.1 (by omega), hn.2⟩
      · have := resGo_lit ts h f (ts.getD (findF ts nm 0).toNat tbD).pa _ (n + 32) hn
        rw [show n + 32 + 32 * f = n + 32 * (f + 1) by omega] at this
        exact this
theorem resF_lit (ts : List Tb) (nm : ByteArray) : RuLit 128 (resF ts nm).1 := by
  unfold resF
  split
  · exact ⟨Nat.zero_le _, fun _ h => by simp at h⟩
  · rename_i h
    have hv := validT_len ts (by simpa using h)
    exact resGo_lit ts hv.2 4 nm [] 0 ⟨Nat.zero_le _, fun _ h => by simp at h⟩

end Go.Proofs.YtpboaadjbkaidaaDoor
