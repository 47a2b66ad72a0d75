/-
  Contracts and plain laws that this claim leans on, part 5.
-/
import Derived.Test.YtpboaadjbkaidaaDoorPackC4
set_option linter.unusedVariables false
set_option linter.unusedSimpArgs false
namespace Go.Proofs.YtpboaadjbkaidaaDoor
set_option maxRecDepth 100000
open Go.RowKit

def RetRes (w : World) (r : List Ru × Int) (e : Ending) (w' : World) : Prop := ∃ v, e = .returned (.tuple #[v, .int .i64 r.2]) ∧ RdRu w' v r.1 ∧ Below w.heap.size w w'
/-- The cells of rules read as these rules. -/
def RuC2 (w : World) (xs : List RuV) (l : List Ru) : Prop := xs.length = l.length ∧ ∀ (i : Nat) (x : RuV) (r : Ru), xs[i]? = some x → l[i]? = some r → x.b = r.br ∧ RdE atC 34 w x.u.v r.bf ∧ RdE atC 34 w x.t.v r.af
theorem RuC2.below {w w' : World} {xs : List RuV} {l : List Ru} (h : RuC2 w xs l) (hb : Below w.heap.size w w') : RuC2 w' xs l :=
  ⟨h.1, fun i x r hx hr => ⟨(h.2 i x r hx hr).1, (h.2 i x r hx hr).2.1.below hb (Nat.le_refl _), (h.2 i x r hx hr).2.2.below hb (Nat.le_refl _)⟩⟩
theorem box_info : (Tryd.prog.info? 30).map (·.size) = some 3 := by kernel_rfl


set_option maxRecDepth 100000 in
set_option maxHeartbeats 16000000 in
theorem segResolve_any (ts : List Tb) (v : Value) (nm0 : ByteArray) (w : World) (ht : RdTb w v ts) (hin : TbIn ts) :
    Calls Tryd.prog 39 #[v, .string nm0] w (RetRes w (resF ts nm0)) := by
  obtain ⟨TT, HTT⟩ : ∃ TT, Hid (resF ts nm0 = TT) := ⟨_, rfl⟩
  rw [HTT.out]
  obtain ⟨R, HRR⟩ : ∃ R, Hid (R = RetRes w TT) := ⟨_, rfl⟩
  rw [← HRR.out]
  have HVA := Lib.hid (segValidate_any ts v w ht hin)
  have HT := Lib.hid ht
  obtain ⟨A, c, hv⟩ := ht.shape
  subst hv
  by_cases hval : validT ts ≠ 0
  · have e0 : TT = ([], validT ts) := by rw [← HTT.out]; unfold resF; rw [if_pos hval]
    generalize validT ts = x at HVA hval e0
    have t1 : (x != 0) = true := bne_iff_ne.2 hval
    go_enter Tryd.func39, Tryd.ntmps39
    go_wp2_with (go_at_call 23; refine HVA.out.mono ?_; rintro e w1 ⟨rfl, hb1⟩)
    rw [HRR.out, e0]
    exact ⟨_, rfl, RdRu.nil, hb1⟩
  have hval0 : validT ts = 0 := by simpa using hval
  obtain ⟨hl16, hlen⟩ := validT_len ts hval0
  have HG0 : Hid (resGo ts 4 nm0 [] = TT) := by show _ = _; rw [← HTT.out]; unfold resF; rw [if_neg hval]
  rw [hval0] at HVA
  clear hval hval0 hin
  have HFI := Lib.hid (fun (nm : ByteArray) (w' : World) (h : Below w.heap.size w w') => find_any ts _ nm w' (HT.out.below h (Nat.le_refl _)) (by omega))
  have hur := Tryd.underlying30
  have hir : (Tryd.prog.info? 30).map (·.size) = some 3 := box_info
  go_enter Tryd.func39, Tryd.ntmps39
  go_wp2_with (go_at_call 23; refine HVA.out.mono ?_; rintro e w1 ⟨rfl, hb1⟩)
  have HB1 := Lib.hid hb1
  clear hb1 HVA
  obtain ⟨wo, HWO⟩ : ∃ wo, Hid (wo = w1) := ⟨w1, rfl⟩
  go_loopg [1, 7, 8] 5 (fun gk nv ov dv wr => ∃ (nm : ByteArray) (out : List Ru) (ys : List RuV) (Ao : Option Addr) (co f : Nat), nv = .string nm ∧ ov = .slice Ao out.length co ∧ dv = .int .i64 ((5 : Int) - (f : Int)) ∧ f ≤ 4 ∧ Hid (resGo ts f nm out = TT) ∧ out.length + 32 * f ≤ 128 ∧ Hid (RS 30 [] w.heap.size wr (.slice Ao out.length co) out ys) ∧ Hid (Below w.heap.size w wr) ∧ f < gk)
  case atStart => exact ⟨nm0, [], [], none, 0, 4, rfl, rfl, rfl, Nat.le_refl _, HG0.out, by simp, RS.start (fun _ h => by simp at h), HB1.out, by decide⟩
  case round =>
    clear HWO HG0 HB1
    obtain ⟨nm, out, ys, Ao, co, f, rfl, rfl, rfl, hf4, HG, hol, HO, HB, hgk⟩ := hrel
    have HF1 := Lib.hid (HFI.out nm wr HB.out)
    obtain ⟨fi, HFD⟩ : ∃ fi, Hid (findF ts nm 0 = fi) := ⟨_, rfl⟩
    rw [HFD.out] at HF1
    have hBz := HB.out.size
    by_cases hfi : fi < 0
    · have e0 : TT = ([], 4) := by
        rw [← HG.out]
        cases f with
        | zero => rw [resGo, HFD.out, if_pos hfi]
        | succ f => rw [resGo, HFD.out, if_pos hfi]
      go_wp2_with (go_at_call 74; refine HF1.out.mono ?_; rintro e w2 ⟨rfl, hb2⟩)
      rw [HRR.out, e0]
      exact ⟨_, rfl, RdRu.nil, HB.out.trans (hb2.mono hBz)⟩
    obtain ⟨i, hi, hil⟩ := findF_bd ts nm (by rw [HFD.out]; exact hfi)
    have hii : fi = (i : Int) := HFD.out.symm.trans hi
    subst hii
    have hfi0 : (0 : Int) ≤ (i : Int) := by omega
    cases f with
    | zero =>
      have e0 : TT = ([], 3) := by rw [← HG.out, resGo, HFD.out, if_neg hfi]
      go_wp2_with (go_at_call 74; refine HF1.out.mono ?_; rintro e w2 ⟨rfl, hb2⟩)
      rw [HRR.out, e0]
      exact ⟨_, rfl, RdRu.nil, HB.out.trans (hb2.mono hBz)⟩
    | succ f =>
      have HG2 : Hid ((if (ts[i]).pa.data.toList = [] then (out ++ (ts[i]).rs, (0 : Int)) else resGo ts f (ts[i]).pa (out ++ (ts[i]).rs)) = TT) := by
        show _ = _
        have h := HG.out
        rw [resGo, HFD.out, if_neg hfi, Int.toNat_natCast, List.getD_eq_getElem?_getD, List.getElem?_eq_getElem hil] at h
        exact h
      clear HG HFD hi
      obtain ⟨hrl, hre⟩ := hlen _ (List.getElem_mem hil)
      obtain ⟨xs, hx0, hxl, hx⟩ := HT.out
      have hixl : i < xs.length := by omega
      obtain ⟨b, o, hA, hbl, hcell⟩ := hx0.cells (by omega)
      subst hA
      have hxk : xs[i]? = some xs[i] := List.getElem?_eq_getElem hixl
      have htk : ts[i]? = some (ts[i]) := List.getElem?_eq_getElem hil
      have HQ1 : Hid (w.cell? ⟨b, o + i * 3 + 1, none⟩ = some (.string xs[i].pa)) := by have := hcell i _ 1 _ hxk rfl; rw [show o + (i * 3 + 1) = o + i * 3 + 1 by omega] at this; exact this
      have HQ2 : Hid (w.cell? ⟨b, o + i * 3 + 2, none⟩ = some xs[i].r.v) := by have := hcell i _ 2 _ hxk rfl; rw [show o + (i * 3 + 2) = o + i * 3 + 2 by omega] at this; exact this
      obtain ⟨hnm, hpa, hru⟩ := hx i _ _ hxk htk
      have HRU := Lib.hid hru
      clear hcell hxk htk hru hx hx0 hxl hnm
      generalize xs[i] = x at HQ1 HQ2 HRU hpa
      generalize ts[i] = t at HG2 hrl hre HRU hpa
      obtain ⟨xnm, xpa, ⟨rA, rn, rc⟩⟩ := x
      obtain ⟨tnm, tpa, trs⟩ := t
      simp only at hpa HG2 hrl hre
      subst hpa
      change Hid (w.cell? _ = some (.slice rA rn rc)) at HQ2
      change Hid (w.cell? _ = some (.string xpa)) at HQ1
      change Hid (RdRu w (.slice rA rn rc) trs) at HRU
      obtain ⟨rxs, hrx, hrxl, hrxe⟩ := HRU.out
      obtain ⟨rA', rc', hrs, hrcl, _⟩ := hrx.shape
      have hrn : rn = rxs.length := by injection hrs
      subst hrn
      have HRX := Lib.hid hrx
      have HRE := Lib.hid hrxe
      have HRL := Lib.hid hrxl
      have hrla : rxs.length ≤ trs.length := Nat.le_of_eq hrxl
      have hrlb : trs.length ≤ rxs.length := Nat.le_of_eq hrxl.symm
      clear hrs hrx hrxe HRU hrcl hrxl
      have hil2 : (i : Int) < (ts.length : Int) := by omega
      go_upto_region 12 with (go_at_call 74; refine HF1.out.mono ?_; rintro e w2 ⟨rfl, hb2⟩)
      have HB2 := Lib.hid (HB.out.trans (hb2.mono hBz))
      have z2 := (HB2.out.cell (p := ⟨b, o + i * 3 + 2, none⟩) hbl).trans HQ2.out
      have hz2 := HB2.out.size
      have HO2 := Lib.hid (HO.out.keep (w' := w2) hb2.size (fun k hk _ => hb2.block k hk))
      clear hb2 HO HB HF1
      go_wp2_with fail
      obtain ⟨wo, HWO⟩ : ∃ wo, Hid (wo = w2) := ⟨w2, rfl⟩
      go_loopg [7, 32] rxs.length (fun gk ov jv wr2 => ∃ (j : Nat) (ys : List RuV) (Ao : Option Addr) (co : Nat), ov = .slice Ao (out.length + j) co ∧ jv = .int .i64 j ∧ j ≤ rxs.length ∧ Hid (RS 30 [] w.heap.size wr2 (.slice Ao (out.length + j) co) (out ++ trs.take j) ys) ∧ Hid (Below w.heap.size w wr2) ∧ rxs.length - j ≤ gk)
      case atStart => exact ⟨0, ys, Ao, co, rfl, rfl, by omega, by (show RS _ _ _ _ _ _ _); rw [List.take_zero, List.append_nil]; exact HO2.out, HB2.out, by omega⟩
      case round =>
        clear HO2 HB2 HWO z2
        obtain ⟨j, ys, Ao, co, rfl, rfl, hj, HO, HB, hgk2⟩ := hrel
        have hz3 := HB.out.size
        by_cases hjl : j < rxs.length
        · have hji : (j : Int) < (rxs.length : Int) := by omega
          have hj0 : (0 : Int) ≤ (j : Int) := by omega
          have hjt : j < trs.length := by omega
          obtain ⟨b2, o2, hA2, hb2, hc2⟩ := HRX.out.cells (by omega)
          subst hA2
          have hyk : rxs[j]? = some rxs[j] := List.getElem?_eq_getElem hjl
          have hrk : trs[j]? = some trs[j] := List.getElem?_eq_getElem hjt
          have hrg2 : wr.rangeAt b2 (o2 + j * 3) (ruC rxs[j]) := fun i v hi => by
            rw [Nat.add_assoc]
            exact (HB.out.cell (p := ⟨b2, o2 + (j * 3 + i), none⟩) hb2).trans (hc2 j _ i v hyk hi)
          obtain ⟨hbr, hbf, haf⟩ := HRE.out j _ _ hyk hrk
          have hrl2 := hre _ (List.getElem_mem hjt)
          have HTK : Hid (out ++ trs.take (j + 1) = (out ++ trs.take j) ++ [trs[j]]) := by show _ = _; rw [List.take_succ_eq_append_getElem hjt, List.append_assoc]
          have HU1 := Lib.hid hbf
          have HT1 := Lib.hid haf
          clear hc2 hyk hrk hbf haf
          generalize rxs[j] = y at hrg2 HU1 HT1 hbr
          generalize trs[j] = r at HU1 HT1 hbr hrl2 HTK
          obtain ⟨yb, ⟨uA, un, uc⟩, ⟨tA, tn, tc⟩⟩ := y
          obtain rfl : yb = r.br := hbr
          change Hid (RdE atC 34 w (.slice uA un uc) r.bf) at HU1
          change Hid (RdE atC 34 w (.slice tA tn tc) r.af) at HT1
          obtain ⟨uA', uc', hus, _⟩ := HU1.out.shape
          have hun : un = r.bf.length := by injection hus
          obtain ⟨tA', tc', hts, _⟩ := HT1.out.shape
          have htn : tn = r.af.length := by injection hts
          subst hun htn
          clear hus hts
          have HQ : Hid (((wr.alloc (.cells #[.bool false, .slice none 0 0, .slice none 0 0] 30)).setRow wr.heap.size (ruC ⟨r.br, ⟨uA, r.bf.length, uc⟩, ⟨tA, r.af.length, tc⟩⟩).toArray).heap[wr.heap.size]? = some (.cells #[.bool r.br, .slice uA r.bf.length uc, .slice tA r.af.length tc] 30)) := setRow_heap _ _ _ _ _ _ (heap_alloc_new wr _)
          have HN : Hid (Below wr.heap.size wr ((wr.alloc (.cells #[.bool false, .slice none 0 0, .slice none 0 0] 30)).setRow wr.heap.size (ruC ⟨r.br, ⟨uA, r.bf.length, uc⟩, ⟨tA, r.af.length, tc⟩⟩).toArray)) := below_setRow ((Below.refl _ wr).alloc (Nat.le_refl _) _) (Nat.le_refl _) _
          go_upto_region 15 with (first
            | (refine wpList_load_mid rfl 30 (.tmp 34) rfl b2 (o2 + j * 3) rfl (ruC ⟨r.br, ⟨uA, r.bf.length, uc⟩, ⟨tA, r.af.length, tc⟩⟩) _ hrg2 hur rfl (by rw [hir]; rfl) ?_)
            | (refine wpList_store_row rfl 30 (.tmp 11) (.tmp 35) rfl (wr.heap.size) (ruC ⟨r.br, ⟨uA, r.bf.length, uc⟩, ⟨tA, r.af.length, tc⟩⟩).toArray rfl rfl 30 _ (heap_alloc_new wr _) (by rw [hir]; rfl) rfl (ruC_oneA ⟨r.br, ⟨uA, r.bf.length, uc⟩, ⟨tA, r.af.length, tc⟩⟩) ?_))
          obtain ⟨q, hq⟩ : ∃ q, Hid (q = wr.heap.size) := ⟨_, rfl⟩
          rw [← hq.out] at HQ HN ⊢
          generalize (wr.alloc (.cells #[.bool false, .slice none 0 0, .slice none 0 0] 30)).setRow q (ruC ⟨r.br, ⟨uA, r.bf.length, uc⟩, ⟨tA, r.af.length, tc⟩⟩).toArray = w6 at HQ HN ⊢
          clear hrg2
          have hq6 : q < w6.heap.size := (Array.getElem?_eq_some_iff.1 HQ.out).1
          have hqw : wr.heap.size ≤ q := Nat.le_of_eq hq.out.symm
          have hqw2 : q ≤ wr.heap.size := Nat.le_of_eq hq.out
          have HU6 := Lib.hid (HU1.out.below (HB.out.trans (HN.out.mono (by omega))) (Nat.le_refl _))
          have HT6 := Lib.hid (HT1.out.below (HB.out.trans (HN.out.mono (by omega))) (Nat.le_refl _))
          have HOL : Hid (∀ k, (Value.slice Ao (out.length + j) co).ownBlock = some k → k < q) := fun k hk => by have := (HO.out.own.lt k hk).2; omega
          obtain ⟨p0, p1, p2, f0, f1, f2⟩ := box3 HQ.out
          go_upto_region 16 with (at_builtin; go_must (refine wpList_appAt rfl (.const (.slice none 0 0)) (.tmp 37) 28 26 rfl Tryd.underlying28 _ atC 34 48 atom_info rfl (by decide) atC_len atC_one w6.heap.size (.slice none 0 0) ([] : List At) rfl (OwnE.nil (f := atC)) (.slice uA r.bf.length uc) r.bf rfl HU6.out (by simp only [List.length_nil]; omega) (by decide) (Nat.le_refl _) ?_); intro v7 w7 hown7 hbel7 hgr7 hat7; rw [List.nil_append] at hown7; obtain ⟨A7, c7, hv7⟩ := own_shape hown7; subst hv7; have hb7 : w7.heap[q]? = w6.heap[q]? := hgr7.block q hq6 (fun e => by cases e); have g1 : w7.cell? ⟨q, 1, none⟩ = some (.slice uA r.bf.length uc) := (World.cell?_of_block (w := w6) hb7).trans p1; have g2 : w7.frozen? ⟨q, 1, none⟩ = false := (World.frozen?_of_block (w := w6) hb7).trans f1)
          have HN7 : Hid (Below q wr (w7.setCell ⟨q, 1, none⟩ (.slice A7 r.bf.length c7))) := Lib.hid ((HN.out.trans ((hbel7 w6.heap.size w6 (Nat.le_refl _) (Below.refl _ _)).mono (by omega))).setCell (p := ⟨q, 1, none⟩) (Nat.le_refl _) _)
          have HQ7 : Hid ((w7.setCell ⟨q, 1, none⟩ (.slice A7 r.bf.length c7)).heap[q]? = some (.cells #[.bool r.br, .slice A7 r.bf.length c7, .slice tA r.af.length tc] 30)) := set_row1 (hb7.trans HQ.out) 1 _
          have HK7 : Hid (Keep (q :: blkL (.slice Ao (out.length + j) co)) (w7.setCell ⟨q, 1, none⟩ (.slice A7 r.bf.length c7)) fun u => RdE atC 34 u (.slice A7 r.bf.length c7) r.bf) := Lib.hid ((OwnE.keepX (X := q :: blkL (.slice Ao (out.length + j) co)) atC_len hown7 (fun b hb => .inl (by
            rcases List.mem_cons.1 hb with rfl | hb
            · exact hq6
            · have := HOL.out b (mem_blkL.1 hb); omega))).step (by simp [World.setCell]) (fun b hlt hX => ⟨heap_setCell_other _ _ _ _ (fun e => hX (by rw [e]; exact List.mem_cons_self ..)), hX⟩))
          clear hown7 hbel7 hgr7 hat7 hb7 g1 g2 p0 p1 p2 f0 f1 f2 HQ HN HU6
          have HT7 := Lib.hid (HT1.out.below (HB.out.trans (HN7.out.mono (by omega))) (Nat.le_refl _))
          generalize w7.setCell ⟨q, 1, none⟩ (.slice A7 r.bf.length c7) = w8 at HN7 HQ7 HK7 HT7 ⊢
          have hq8 : q < w8.heap.size := (Array.getElem?_eq_some_iff.1 HQ7.out).1
          obtain ⟨p0, p1, p2, f0, f1, f2⟩ := box3 HQ7.out
          clear HT6
          go_upto_region 17 with (at_builtin; go_must (refine wpList_appAt rfl (.const (.slice none 0 0)) (.tmp 41) 28 26 rfl Tryd.underlying28 _ atC 34 48 atom_info rfl (by decide) atC_len atC_one w8.heap.size (.slice none 0 0) ([] : List At) rfl (OwnE.nil (f := atC)) (.slice tA r.af.length tc) r.af rfl HT7.out (by simp only [List.length_nil]; omega) (by decide) (Nat.le_refl _) ?_); intro v9 w9 hown9 hbel9 hgr9 hat9; rw [List.nil_append] at hown9; obtain ⟨A9, c9, hv9⟩ := own_shape hown9; subst hv9; have hb9 : w9.heap[q]? = w8.heap[q]? := hgr9.block q hq8 (fun e => by cases e); have g1 : w9.cell? ⟨q, 2, none⟩ = some (.slice tA r.af.length tc) := (World.cell?_of_block (w := w8) hb9).trans p2; have g2 : w9.frozen? ⟨q, 2, none⟩ = false := (World.frozen?_of_block (w := w8) hb9).trans f2)
          have HN9 : Hid (Below q wr (w9.setCell ⟨q, 2, none⟩ (.slice A9 r.af.length c9))) := Lib.hid ((HN7.out.trans ((hbel9 w8.heap.size w8 (Nat.le_refl _) (Below.refl _ _)).mono (by omega))).setCell (p := ⟨q, 2, none⟩) (Nat.le_refl _) _)
          have HQ9 : Hid ((w9.setCell ⟨q, 2, none⟩ (.slice A9 r.af.length c9)).heap[q]? = some (.cells #[.bool r.br, .slice A7 r.bf.length c7, .slice A9 r.af.length c9] 30)) := set_row1 (hb9.trans HQ7.out) 2 _
          have HK9a : Hid (Keep (q :: blkL (.slice Ao (out.length + j) co)) (w9.setCell ⟨q, 2, none⟩ (.slice A9 r.af.length c9)) fun u => RdE atC 34 u (.slice A9 r.af.length c9) r.af) := Lib.hid ((OwnE.keepX (X := q :: blkL (.slice Ao (out.length + j) co)) atC_len hown9 (fun b hb => .inl (by
            rcases List.mem_cons.1 hb with rfl | hb
            · exact hq8
            · have := HOL.out b (mem_blkL.1 hb); omega))).step (by simp [World.setCell]) (fun b hlt hX => ⟨heap_setCell_other _ _ _ _ (fun e => hX (by rw [e]; exact List.mem_cons_self ..)), hX⟩))
          have HK9b : Hid (Keep (q :: blkL (.slice Ao (out.length + j) co)) (w9.setCell ⟨q, 2, none⟩ (.slice A9 r.af.length c9)) fun u => RdE atC 34 u (.slice A7 r.bf.length c7) r.bf) := Lib.hid (HK7.out.step (by have := hgr9.size; simpa [World.setCell] using this) (fun b hlt hX => ⟨(heap_setCell_other _ _ _ _ (fun e => hX (by rw [e]; exact List.mem_cons_self ..))).trans (hgr9.block b hlt (fun e => by cases e)), hX⟩))
          clear hown9 hbel9 hgr9 hat9 hb9 g1 g2 p0 p1 p2 f0 f1 f2 HQ7 HN7 HT7 HK7
          generalize w9.setCell ⟨q, 2, none⟩ (.slice A9 r.af.length c9) = w10 at HN9 HQ9 HK9a HK9b ⊢
          have hq10 : q < w10.heap.size := (Array.getElem?_eq_some_iff.1 HQ9.out).1
          have HB10 := Lib.hid (HB.out.trans (HN9.out.mono (by omega)))
          have hz10 := HB10.out.size
          have hys := HO.out.len
          have hysl : ys.length = out.length + j := by rw [hys, List.length_append, List.length_take]; omega
          have HO10 : Hid (RS 30 [] w.heap.size w10 (.slice Ao (out.length + j) co) (out ++ trs.take j) ys) := Lib.hid (HO.out.keep HN9.out.size (fun b hlt _ => HN9.out.block b (by omega)))
          have HOA := Lib.hid (HO10.out.keep (w' := w10.alloc (.cells (ruC ⟨r.br, ⟨A7, r.bf.length, c7⟩, ⟨A9, r.af.length, c9⟩⟩).toArray 30)) (by simp) (fun b hlt _ => Below.heap_alloc w10 _ b hlt))
          have HOW : Hid ((w10.alloc (.cells (ruC ⟨r.br, ⟨A7, r.bf.length, c7⟩, ⟨A9, r.af.length, c9⟩⟩).toArray 30)).ownsRow w.heap.size 30 3 (.slice Ao (out.length + j) co) ys.length (ys.flatMap ruC)) := HOA.out.own
          have hyb : ys.length ≤ 128 := by omega
          have HKA : Hid (Keep ([] ++ blkL (.slice Ao (out.length + j) co)) (w10.alloc (.cells (ruC ⟨r.br, ⟨A7, r.bf.length, c7⟩, ⟨A9, r.af.length, c9⟩⟩).toArray 30)) fun u => RdE atC 34 u (.slice A7 r.bf.length c7) r.bf ∧ RdE atC 34 u (.slice A9 r.af.length c9) r.af) := Lib.hid (((HK9b.out.and HK9a.out).mono (fun b hb => List.mem_cons_of_mem _ hb)).step (by simp) (fun b hlt hX => ⟨Below.heap_alloc w10 _ b hlt, hX⟩))
          clear hysl HO10 hys
          go_wp2_with (first
            | (refine wpList_load_row rfl 30 (.tmp 11) rfl q rfl 30 #[.bool r.br, .slice A7 r.bf.length c7, .slice A9 r.af.length c9] (0, 0) _ HQ9.out hur rfl (by rw [hir]; rfl) ?_)
            | (at_builtin; refine wpList_appAt rfl (.tmp 44) (.tmp 46) 31 30 rfl Tryd.underlying31 _ ruC 3 56 rule_info rfl (by decide) ruC_len ruC_one w.heap.size (.slice Ao (out.length + j) co) ys rfl HOW.out (.slice (some ⟨w10.heap.size, 0, none⟩) 1 1) [⟨r.br, ⟨A7, r.bf.length, c7⟩, ⟨A9, r.af.length, c9⟩⟩] rfl (rdE_one_at ruC 3 ruC_len w10 _ rfl ⟨r.br, ⟨A7, r.bf.length, c7⟩, ⟨A9, r.af.length, c9⟩⟩ 30) (by simp only [List.length_singleton]; omega) (by decide) (by simp; omega) ?_; intro v11 w11 hown11 hbel11 hgr11 hat11; obtain ⟨ny, hny⟩ : ∃ ny, Hid (ny = ys ++ [(⟨r.br, ⟨A7, r.bf.length, c7⟩, ⟨A9, r.af.length, c9⟩⟩ : RuV)]) := ⟨_, rfl⟩; have HP11 := Lib.hid (HOA.out.push (by simp; omega) r ⟨r.br, ⟨A7, r.bf.length, c7⟩, ⟨A9, r.af.length, c9⟩⟩ rfl HKA.out hown11 hgr11 hat11); obtain ⟨A11, c11, hv11⟩ := own_shape HP11.out.own; have hnl : (ys ++ [(⟨r.br, ⟨A7, r.bf.length, c7⟩, ⟨A9, r.af.length, c9⟩⟩ : RuV)]).length = out.length + (j + 1) := (by have h1 := HP11.out.len; simp only [List.length_append, List.length_take, List.length_singleton] at h1 ⊢; omega); rw [hnl] at hv11; subst hv11; clear hnl))
          have HB11 := Lib.hid (hbel11 w.heap.size w (Nat.le_refl _) (HB10.out.alloc hz10 (.cells (ruC ⟨r.br, ⟨A7, r.bf.length, c7⟩, ⟨A9, r.af.length, c9⟩⟩).toArray 30)))
          go_roundg (rxs.length - (j + 1))
          case measure => omega
          case rel => exact ⟨j + 1, _, A11, c11, rfl, by go_num, by omega, by (show RS _ _ _ _ _ _ _); rw [HTK.out]; exact HP11.out, HB11.out, Nat.le_refl _⟩
        · obtain rfl : j = rxs.length := by omega
          have hji : ¬ (rxs.length : Int) < (rxs.length : Int) := by omega
          have z1 := (HB.out.cell (p := ⟨b, o + i * 3 + 1, none⟩) hbl).trans HQ1.out
          have hot : out.length + rxs.length = (out ++ trs).length := by rw [List.length_append]; omega
          have HO9 : Hid (RS 30 [] w.heap.size wr (.slice Ao (out ++ trs).length co) (out ++ trs) ys) := by
            have h := HO.out
            rw [List.take_of_length_le (by omega)] at h
            rw [hot] at h
            exact h
          rw [hot]
          clear hot HO
          have hotl : (out ++ trs).length + 32 * f ≤ 128 := by rw [List.length_append]; omega
          generalize out ++ trs = out2 at HO9 HG2 hotl ⊢
          by_cases hp : xpa.data.toList = []
          · have tp : (xpa.toList == []) = true := by rw [toList_eq_data, hp]; rfl
            have tp2 : xpa.toList.isEmpty = true := by rw [toList_eq_data, hp]; rfl
            have e0 : TT = (out2, 0) := by rw [← HG2.out, if_pos hp]
            clear hp
            go_wp2_with fail
            rw [HRR.out, e0]
            exact ⟨_, rfl, HO9.out.rd, HB.out⟩
          · have tp : (xpa.toList == []) = false := by rw [toList_eq_data]; exact beq_eq_false_iff_ne.2 hp
            have tp2 : xpa.toList.isEmpty = false := by rw [toList_eq_data]; exact List.isEmpty_eq_false_iff.2 hp
            have HG3 : Hid (resGo ts f xpa out2 = TT) := by show _ = _; rw [← HG2.out, if_neg hp]
            clear hp
            go_wp2_with fail
            go_roundg (f + 1)
            case measure => omega
            case rel => exact ⟨xpa, out2, ys, Ao, co, f, rfl, rfl, by (show Value.int .i64 _ = Value.int .i64 _); congr 1; omega, by omega, HG3.out, hotl, HO9.out, HB.out, by omega⟩


end Go.Proofs.YtpboaadjbkaidaaDoor
