
/-
  TopConverts: a table and a resource file with the same units.
-/
import Derived.Test.YtfkojnofbpdjdaaGreatDoorPackC7
import Derived.Test.YtfkojnofbpdjdaaGreatDoorPackC1
set_option linter.unusedVariables false
set_option linter.unusedSimpArgs false
set_option maxHeartbeats 16000000
set_option maxRecDepth 100000
namespace Go.Proofs.YtfkojnofbpdjdaaGreatDoor
set_option maxRecDepth 100000
open Go.RowKit

theorem ldC_range {w : World} {b o : Nat} {x y : Int} (h0 : w.cell? ⟨b, o, none⟩ = some (.int .i64 x)) (h1 : w.cell? ⟨b, o + 1, none⟩ = some (.int .i64 y)) : (Instr.loadAt 54 (.pointer (some ⟨b, o, none⟩))).run Tryz.prog w = .ok (.agg #[.int .i64 x, .int .i64 y]) w := by
  go_simp

set_option maxRecDepth 100000 in
set_option maxHeartbeats 8000000 in
theorem topConverts_any (m : Int) (L M : List Int) (A A2 : Option Addr) (c c2 : Nat) (w : World) (hm : w.cell? ⟨0, 0, none⟩ = some (.int .i64 m)) (h : RdE intC 1 w (.slice A L.length c) L) (hin : ∀ x ∈ L, IntIn x) (h2 : RdE intC 1 w (.slice A2 M.length c2) M) (hin2 : ∀ x ∈ M, IntIn x) :
    Calls Tryz.prog 6 #[.slice A L.length c, .slice A2 M.length c2] w (fun e w' => e = .returned (.bool true) ∧ Below w.heap.size w w') := by
  have CK := Lib.hid (fun (W : World) (hW : Below w.heap.size w W) => topKnown_any m W (below_cell0 hm hW))
  have HB0 := Lib.hid (Below.refl w.heap.size w)
  by_cases hl1 : 100 < L.length
  · have h1i : (100 : Int) < (L.length : Int) := by omega
    clear h hin hm h2 hin2
    go_enter Tryz.func6, Tryz.ntmps6
    go_wp2_with (go_at_call 7; refine (CK.out _ (by exact HB0.out)).mono ?_; rintro e w1 ⟨rfl, hb1⟩; have HB1 := Lib.hid hb1; clear hb1)
    go_ret
    exact ⟨rfl, HB1.out⟩
  by_cases hl2 : 100 < M.length
  · have h1i : ¬ (100 : Int) < (L.length : Int) := by omega
    have h2i : (100 : Int) < (M.length : Int) := by omega
    clear h hin hm h2 hin2
    go_enter Tryz.func6, Tryz.ntmps6
    go_wp2_with (go_at_call 7; refine (CK.out _ (by exact HB0.out)).mono ?_; rintro e w1 ⟨rfl, hb1⟩; have HB1 := Lib.hid hb1; clear hb1)
    go_ret
    exact ⟨rfl, HB1.out⟩
  have h1i : ¬ (100 : Int) < (L.length : Int) := by omega
  have h2i : ¬ (100 : Int) < (M.length : Int) := by omega
  have hF := plF_gen L
  have hG := plF_gen M
  have hN : Nums (w.alloc (.cells #[.slice A L.length c, .int .i64 0] 29)) w.heap.size L 0 :=
    ⟨_, w, Array.getElem?_push_size, h, Nat.le_refl _, fun k hk => Below.heap_alloc _ _ _ hk, hin⟩
  have CF := Lib.hid (fragmentP_any L w.heap.size 6 _ hN (by decide))
  have CG := Lib.hid (fun (W : World) (hW : Below w.heap.size w W) => fragmentP_any M W.heap.size 6 (W.alloc (.cells #[.slice A2 M.length c2, .int .i64 0] 29)) ⟨_, W, Array.getElem?_push_size, h2.below hW (Nat.le_refl _), Nat.le_refl _, fun k hk => Below.heap_alloc _ _ _ hk, hin2⟩ (by decide))
  have HM : Hid (∀ W, Below w.heap.size w W → W.cell? ⟨0, 0, none⟩ = some (.int .i64 m)) := fun W hW => below_cell0 hm hW
  have hvF := plain_val _ hF.nrm hF.pl (by have := hF.li; omega)
  have hvG := plain_val _ hG.nrm hG.pl (by have := hG.li; omega)
  have ERF := Lib.hid (fun (v : Value) (W : World) (hW : Below w.heap.size w W) (ha : RdT W v (fragG false L 0 ((6 : Nat) : Int)).1) => rsEncode_any _ v m W (HM.out W hW) ha hvF hF.pl)
  have ERG := Lib.hid (fun (v : Value) (W : World) (hW : Below w.heap.size w W) (ha : RdT W v (fragG false M 0 ((6 : Nat) : Int)).1) => rsEncode_any _ v m W (HM.out W hW) ha hvG hG.pl)
  have ESF := Lib.hid (fun (v : Value) (W : World) (hW : Below w.heap.size w W) (ha : RdT W v (fragG false L 0 ((6 : Nat) : Int)).1) => shEncode_any _ v m W (HM.out W hW) ha hvF hF.pl)
  have ESG := Lib.hid (fun (v : Value) (W : World) (hW : Below w.heap.size w W) (ha : RdT W v (fragG false M 0 ((6 : Nat) : Int)).1) => shEncode_any _ v m W (HM.out W hW) ha hvG hG.pl)
  have hsubF := hB_fragP w A L.length c
  have hsubG := fun W => hB_fragP W A2 M.length c2
  have HSF := Lib.hid hsubF
  have HSG := Lib.hid hsubG
  clear hsubF hsubG
  have z1 := hF.enc 2
  have z2 := hG.enc 2
  have z3 := hF.enc 3
  have z4 := hG.enc 3
  rw [← size_ofL] at z1 z2 z3 z4
  have CPR := Lib.hid (fun (W : World) (hW : Below w.heap.size w W) => dparse_any m 2 (.inr (.inl rfl)) _ _ (splR m _ _ hF hG) W (HM.out W hW))
  have CPS := Lib.hid (fun (W : World) (hW : Below w.heap.size w W) => dparse_any m 3 (.inr (.inr rfl)) _ _ (splS m _ _ hF hG) W (HM.out W hW))
  have CSN := Lib.hid (fun W => sent_any W)
  have CQR := Lib.hid (fun (A : Option Addr) (c : Nat) (vr : Value) (W : World) (hW : Below w.heap.size w W) (hp : RdE ptC 3 W (.slice A 5 c) (psRC (fragG false L 0 ((6 : Nat) : Int)).1 (fragG false M 0 ((6 : Nat) : Int)).1)) (hr : RdRu W vr [sentR]) => pieces_any m 2 _ _ (unR m _ _ hF hG) A c vr W (HM.out W hW) hp hr)
  have CQS := Lib.hid (fun (A : Option Addr) (c : Nat) (vr : Value) (W : World) (hW : Below w.heap.size w W) (hp : RdE ptC 3 W (.slice A 5 c) (psSC (fragG false L 0 ((6 : Nat) : Int)).1 (fragG false M 0 ((6 : Nat) : Int)).1)) (hr : RdRu W vr [sentR]) => pieces_any m 3 _ _ (unS m _ _ hF hG) A c vr W (HM.out W hW) hp hr)
  rw [psRC_len] at CQR
  rw [psSC_len] at CQS
  unfold ParRet at CPR CPS
  rw [psRC_len] at CPR
  rw [psSC_len] at CPS
  obtain ⟨hpl, hps⟩ := pcsC_src _ _ hF hG
  have HPS := Lib.hid hps
  clear hF hG h hin hm h2 hin2 hN hvF hvG hl1 hl2 hps
  generalize pcsL (ksC (fragG false L 0 ((6 : Nat) : Int)).1 (fragG false M 0 ((6 : Nat) : Int)).1) = PP at *
  generalize psRC (fragG false L 0 ((6 : Nat) : Int)).1 (fragG false M 0 ((6 : Nat) : Int)).1 = P2 at *
  generalize psSC (fragG false L 0 ((6 : Nat) : Int)).1 (fragG false M 0 ((6 : Nat) : Int)).1 = P3 at *
  generalize (fragG false L 0 ((6 : Nat) : Int)).1 = F at *
  generalize (fragG false M 0 ((6 : Nat) : Int)).1 = G at *
  generalize ofL (encF 2 F) = e1 at *
  generalize ofL (encF 2 G) = e2 at *
  generalize ofL (encF 3 F) = e3 at *
  generalize ofL (encF 3 G) = e4 at *
  go_enter Tryz.func6, Tryz.ntmps6
  go_upto_region 4 with (go_at_call 9; refine (CF.out).mono ?_; rintro e W1 ⟨v1, rfl, ho1, hbut⟩; obtain ⟨Af, cf, rfl⟩ := own_shape ho1; have HB1 := Lib.hid (HSF.out W1 hbut); have HF1 := Lib.hid (OwnE.rd tkC_three ho1); clear ho1 hbut)
  go_upto_region 5 with (go_at_call 9; refine (CG.out _ (by exact HB1.out)).mono ?_; rintro e W2 ⟨v1, rfl, ho1, hbut⟩; obtain ⟨Ag, cg, rfl⟩ := own_shape ho1; have HBx := Lib.hid (HSG.out _ W2 hbut); have HB2 := Lib.hid (HB1.out.trans (HBx.out.mono HB1.out.size)); have HF2 := Lib.hid (RdE.below HF1.out HBx.out (Nat.le_refl _)); have HG2 := Lib.hid (OwnE.rd tkC_three ho1); clear ho1 hbut HBx)
  go_upto_region 6 with (go_at_call 11; refine (ERF.out _ _ (by exact HB2.out) (by exact HF2.out)).mono ?_; rintro e W3 ⟨rfl, hb⟩; have HB3 := Lib.hid (HB2.out.trans (hb.mono HB2.out.size)); have HF3 := Lib.hid (RdE.below HF2.out hb (Nat.le_refl _)); have HG3 := Lib.hid (RdE.below HG2.out hb (Nat.le_refl _)); clear hb)
  go_upto_region 7 with (go_at_call 11; refine (ERG.out _ _ (by exact HB3.out) (by exact HG3.out)).mono ?_; rintro e W4 ⟨rfl, hb⟩; have HB4 := Lib.hid (HB3.out.trans (hb.mono HB3.out.size)); have HF4 := Lib.hid (RdE.below HF3.out hb (Nat.le_refl _)); have HG4 := Lib.hid (RdE.below HG3.out hb (Nat.le_refl _)); clear hb)
  go_upto_region 8 with (go_at_call 12; refine (ESF.out _ _ (by exact HB4.out) (by exact HF4.out)).mono ?_; rintro e W5 ⟨rfl, hb⟩; have HB5 := Lib.hid (HB4.out.trans (hb.mono HB4.out.size)); have HG5 := Lib.hid (RdE.below HG4.out hb (Nat.le_refl _)); clear hb)
  go_upto_region 9 with (go_at_call 12; refine (ESG.out _ _ (by exact HB5.out) (by exact HG5.out)).mono ?_; rintro e W6 ⟨rfl, hb⟩; have HB6 := Lib.hid (HB5.out.trans (hb.mono HB5.out.size)); clear hb)
  go_upto_region 10 with (go_at_call 28; refine (CPR.out _ (by exact HB6.out)).mono ?_; rintro e W7 ⟨A7, c7, rfl, ho, hb⟩; have HB7 := Lib.hid (HB6.out.trans (hb.mono HB6.out.size)); have HP7 := Lib.hid (OwnE.rd ptC_three ho); clear ho hb)
  have hz7 := HB7.out.size
  have HB8 := Lib.hid (HB7.out.alloc hz7 (.cells #[.int .i64 2, .slice A7 5 c7] 41))
  have HP8 := Lib.hid (RdE.below HP7.out ((Below.refl W7.heap.size W7).alloc (Nat.le_refl _) (.cells #[.int .i64 2, .slice A7 5 c7] 41)) (Nat.le_refl _))
  have HX8 : Hid ((W7.alloc (.cells #[.int .i64 2, .slice A7 5 c7] 41)).heap[W7.heap.size]? = some (.cells #[.int .i64 2, .slice A7 5 c7] 41)) := heap_alloc_new W7 _
  generalize W7.alloc (.cells #[.int .i64 2, .slice A7 5 c7] 41) = W8 at HB8 HP8 HX8 ⊢
  generalize W7.heap.size = g8 at HX8 ⊢
  clear HP7 HB7 hz7
  go_upto_region 11 with (go_at_call 28; refine (CPS.out _ (by exact HB8.out)).mono ?_; rintro e W9 ⟨A9, c9, rfl, ho, hb⟩; have HB9 := Lib.hid (HB8.out.trans (hb.mono HB8.out.size)); have HP9 := Lib.hid (OwnE.rd ptC_three ho); have HQ9 := Lib.hid (RdE.below HP8.out hb (Nat.le_refl _)); have HX9 := Lib.hid ((hb.block g8 (Array.getElem?_eq_some_iff.1 HX8.out).1).trans HX8.out); clear ho hb)
  have hz9 := HB9.out.size
  have HB10 := Lib.hid (HB9.out.alloc hz9 (.cells #[.int .i64 3, .slice A9 5 c9] 41))
  have hba := (Below.refl W9.heap.size W9).alloc (Nat.le_refl _) (.cells #[.int .i64 3, .slice A9 5 c9] 41)
  have HP10 := Lib.hid (RdE.below HP9.out hba (Nat.le_refl _))
  have HQ10 := Lib.hid (RdE.below HQ9.out hba (Nat.le_refl _))
  have HX10 := Lib.hid ((hba.block g8 (Array.getElem?_eq_some_iff.1 HX9.out).1).trans HX9.out)
  have HY10 : Hid ((W9.alloc (.cells #[.int .i64 3, .slice A9 5 c9] 41)).heap[W9.heap.size]? = some (.cells #[.int .i64 3, .slice A9 5 c9] 41)) := heap_alloc_new W9 _
  clear hba
  generalize W9.alloc (.cells #[.int .i64 3, .slice A9 5 c9] 41) = W10 at HB10 HP10 HQ10 HX10 HY10 ⊢
  generalize W9.heap.size = g10 at HY10 ⊢
  clear HP9 HB9 HQ9 HX9 hz9 HB8 HP8 HX8 CPR CPS ERF ERG ESF ESG CF CG HSF HSG HB1 HB2 HB3 HB4 HB5 HB6 HF1 HF2 HF3 HF4 HG2 HG3 HG4 HG5
  obtain ⟨x0, x1⟩ := box2D HX10.out
  obtain ⟨y0, y1⟩ := box2D HY10.out
  go_region_with (first
    | (go_at_call 19; refine (CSN.out _).mono ?_; rintro e W11 ⟨vr, rfl, hr, hb⟩; have HR11 := Lib.hid hr; have HB11 := Lib.hid ((below_drewN (Below.refl W10.heap.size W10) 1).trans hb); obtain ⟨u0, u1⟩ := box2D ((HB11.out.block g8 (Array.getElem?_eq_some_iff.1 HX10.out).1).trans HX10.out); clear hr hb)
    | (go_at_call 18; refine (CQR.out _ _ _ _ (by exact HB10.out.trans (HB11.out.mono HB10.out.size)) (by exact RdE.below HQ10.out HB11.out (Nat.le_refl _)) (by exact HR11.out)).mono ?_; rintro e W12 ⟨v, rfl, ⟨ys, hys⟩, hb⟩; have HY := Lib.hid hys.rd; have HB12 := Lib.hid (HB11.out.trans (hb.mono HB11.out.size)); clear hys hb))
  all_goals (
    clear u0 u1 x0 x1 y0 y1 CQR HR11 HB11
    have HY12 := Lib.hid ((HB12.out.block g10 (Array.getElem?_eq_some_iff.1 HY10.out).1).trans HY10.out)
    obtain ⟨y0, y1⟩ := box2D HY12.out
    have HP12 := Lib.hid (RdE.below HP10.out HB12.out (Nat.le_refl _))
    have HBw := Lib.hid (HB10.out.trans (HB12.out.mono HB10.out.size))
    obtain ⟨Ap, cp, hv, _⟩ := HY.out.shape
    subst hv
    clear HX10 HY10 HB10 HB12 HQ10 HP10
    go_upto_region 12 with fail
    go_region_with (first
      | (go_at_call 19; refine (CSN.out _).mono ?_; rintro e W13 ⟨vr2, rfl, hr, hb⟩; have HR13 := Lib.hid hr; have HB13 := Lib.hid ((below_drewN (Below.refl W12.heap.size W12) 1).trans hb); obtain ⟨u0, u1⟩ := box2D ((HB13.out.block g10 (Array.getElem?_eq_some_iff.1 HY12.out).1).trans HY12.out); clear hr hb)
      | (go_at_call 18; refine (CQS.out _ _ _ _ (by exact HBw.out.trans (HB13.out.mono HBw.out.size)) (by exact RdE.below HP12.out HB13.out (Nat.le_refl _)) (by exact HR13.out)).mono ?_; rintro e W14 ⟨v, rfl, ⟨ys, hys⟩, hb⟩; have HZ := Lib.hid hys.rd; have HB14 := Lib.hid (HB13.out.trans (hb.mono HB13.out.size)); clear hys hb))
    all_goals (
      have HYZ := Lib.hid (HY.out.below HB14.out)
      have HBz := Lib.hid (HBw.out.trans (HB14.out.mono HBw.out.size))
      obtain ⟨Aq, cq, hv, _⟩ := HZ.out.shape
      subst hv
      clear u0 u1 y0 y1 CQS HR13 HB13 HY12 HP12 HBw HY HB14 CSN
      have hnn : (((PP.length : Nat) : Int) != (PP.length : Int)) = false := by simp
      go_wp2_with fail
      go_loopg [120] PP.length (fun gk iv wr => ∃ k : Nat, iv = .int .i64 k ∧ k ≤ PP.length ∧ Hid (Below W14.heap.size W14 wr) ∧ PP.length - k ≤ gk)
      case atStart => exact ⟨0, rfl, Nat.zero_le _, Below.refl _ _, Nat.le_refl _⟩
      case round =>
        obtain ⟨k, rfl, hk, HBr, hgk⟩ := hrel
        by_cases hkl : k < PP.length
        · obtain ⟨b1, o1, A1, c1, hA1, hb1, p0, p1, p2, p3, hs1⟩ := RdPc.at_ ((HYZ.out).below HBr.out) k hkl
          obtain ⟨b2, o2, A2s, c2s, hA2, hb2, q0, q1, q2, q3, hs2⟩ := RdPc.at_ ((HZ.out).below HBr.out) k hkl
          subst hA1 hA2
          have hsm := HPS.out PP[k] (List.getElem_mem hkl)
          generalize PP[k] = x at *
          obtain ⟨pt, lo, hi, xs⟩ := x
          simp only at p0 p1 p2 p3 q0 q1 q2 q3 hs1 hs2 hsm
          have HSp := Lib.hid hs1
          have HSq := Lib.hid hs2
          have CT := Lib.hid (fun (A : Option Addr) (c : Nat) (W : World) (h : RdT W (.slice A xs.length c) xs) => tokens_any xs _ W h (by omega) (by omega))
          have htl : (tokensL xs).length ≤ 1000000 := by have := tokensL_length xs; omega
          have CSM := Lib.hid (fun (v u : Value) (W : World) (h1 : RdT W v (tokensL xs)) (h2 : RdT W u (tokensL xs)) => sameT_yes (tokensL xs) v u W h1 h2 htl)
          have HBd := Lib.hid (below_drewN (Below.refl wr.heap.size wr) 1)
          clear hs1 hs2 hsm htl
          go_upto_region 18 with fail
          -- REGION
          refine wp_region_at 40 #[false, false, false, false, false, false, false, false, false, false, false, false, false, false, false, false, false, false, false, false, false, false, false, false, false, false, false, false, false, false, false, false, false, false, false, false, false, false, false, false] rfl rfl (by kernel_rfl) ?_
          refine zzM 0 (.slice (some ⟨b1, o1, none⟩) PP.length cp) (some 123) rfl ?_
          refine zzM 1 (.int .i64 (k : Int)) (some 124) rfl ?_
          refine zzA 2 (.pointer (some ⟨b1, o1 + k * 4, none⟩)) (some 125) rfl (fun _ => ex_indexAddr 43 _ _ (.slice (some ⟨b1, o1, none⟩) PP.length cp) (.int .i64 (k : Int)) _ rfl (by kernel_rfl) (by kernel_rfl) (by go_simp)) ?_
          refine zzA 3 (.pointer (some ⟨b1, o1 + k * 4 + 1, none⟩)) (some 126) rfl (fun _ => ex_fieldAddr 56 _ 1 (.pointer (some ⟨b1, o1 + k * 4, none⟩)) _ rfl (by kernel_rfl) (by go_simp)) ?_
          refine zzM 5 (.slice (some ⟨b2, o2, none⟩) PP.length cq) (some 128) rfl ?_
          refine zzM 6 (.int .i64 (k : Int)) (some 129) rfl ?_
          refine zzA 7 (.pointer (some ⟨b2, o2 + k * 4, none⟩)) (some 130) rfl (fun _ => ex_indexAddr 43 _ _ (.slice (some ⟨b2, o2, none⟩) PP.length cq) (.int .i64 (k : Int)) _ rfl (by kernel_rfl) (by kernel_rfl) (by go_simp)) ?_
          refine zzA 8 (.pointer (some ⟨b2, o2 + k * 4 + 1, none⟩)) (some 131) rfl (fun _ => ex_fieldAddr 56 _ 1 (.pointer (some ⟨b2, o2 + k * 4, none⟩)) _ rfl (by kernel_rfl) (by go_simp)) ?_
          simp only [Act.put, List.setIfInBounds_toArray, List.set_cons_zero, List.set_cons_succ]
          refine wpAny_both 4 9 127 132 (.agg #[.int .i64 (lo : Int), .int .i64 (hi : Int)]) (.agg #[.int .i64 (lo : Int), .int .i64 (hi : Int)]) (by kernel_rfl) (by kernel_rfl) (by kernel_rfl) rfl rfl rfl rfl (by decide) (by decide) (by kernel_rfl) (by kernel_rfl) (by kernel_rfl) (by kernel_rfl) (ex_load 54 _ (.pointer (some ⟨b1, o1 + k * 4 + 1, none⟩)) _ rfl (by kernel_rfl) (ldC_range (w := wr.drew) p1 p2)) (ex_load 54 _ (.pointer (some ⟨b2, o2 + k * 4 + 1, none⟩)) _ rfl (by kernel_rfl) (ldC_range (w := wr.drew) q1 q2)) (ex_load 54 _ (.pointer (some ⟨b1, o1 + k * 4 + 1, none⟩)) _ rfl (by kernel_rfl) (ldC_range (w := wr.drew) p1 p2)) (ex_load 54 _ (.pointer (some ⟨b2, o2 + k * 4 + 1, none⟩)) _ rfl (by kernel_rfl) (ldC_range (w := wr.drew) q1 q2)) rfl ?_
          simp only [Act.put, List.setIfInBounds_toArray, List.set_cons_zero, List.set_cons_succ]
          refine zzA 10 (.bool false) (some 133) rfl (fun _ => ex_binOp .neq 54 54 _ _ (.agg #[.int .i64 (lo : Int), .int .i64 (hi : Int)]) (.agg #[.int .i64 (lo : Int), .int .i64 (hi : Int)]) _ rfl (by kernel_rfl) (by kernel_rfl) (by go_simp)) ?_
          refine zzM 11 (.bool false) (some 134) rfl ?_
          refine zzM 12 (.slice (some ⟨b1, o1, none⟩) PP.length cp) (some 135) rfl ?_
          refine zzM 13 (.int .i64 (k : Int)) (some 136) rfl ?_
          refine zzA 14 (.pointer (some ⟨b1, o1 + k * 4, none⟩)) (some 137) rfl (fun _ => ex_indexAddr 43 _ _ (.slice (some ⟨b1, o1, none⟩) PP.length cp) (.int .i64 (k : Int)) _ rfl (by kernel_rfl) (by kernel_rfl) (by go_simp)) ?_
          refine zzA 15 (.pointer (some ⟨b1, o1 + k * 4, none⟩)) (some 138) rfl (fun _ => ex_fieldAddr 56 _ 0 (.pointer (some ⟨b1, o1 + k * 4, none⟩)) _ rfl (by kernel_rfl) (by go_simp)) ?_
          refine zzM 17 (.slice (some ⟨b2, o2, none⟩) PP.length cq) (some 140) rfl ?_
          refine zzM 18 (.int .i64 (k : Int)) (some 141) rfl ?_
          refine zzA 19 (.pointer (some ⟨b2, o2 + k * 4, none⟩)) (some 142) rfl (fun _ => ex_indexAddr 43 _ _ (.slice (some ⟨b2, o2, none⟩) PP.length cq) (.int .i64 (k : Int)) _ rfl (by kernel_rfl) (by kernel_rfl) (by go_simp)) ?_
          refine zzA 20 (.pointer (some ⟨b2, o2 + k * 4, none⟩)) (some 143) rfl (fun _ => ex_fieldAddr 56 _ 0 (.pointer (some ⟨b2, o2 + k * 4, none⟩)) _ rfl (by kernel_rfl) (by go_simp)) ?_
          simp only [Act.put, List.setIfInBounds_toArray, List.set_cons_zero, List.set_cons_succ]
          refine wpAny_both 16 21 139 144 (.int .i64 (pt : Int)) (.int .i64 (pt : Int)) (by kernel_rfl) (by kernel_rfl) (by kernel_rfl) rfl rfl rfl rfl (by decide) (by decide) (by kernel_rfl) (by kernel_rfl) (by kernel_rfl) (by kernel_rfl) (ex_load 3 _ (.pointer (some ⟨b1, o1 + k * 4, none⟩)) _ rfl (by kernel_rfl) (ldT_int (w := wr.drew) p0)) (ex_load 3 _ (.pointer (some ⟨b2, o2 + k * 4, none⟩)) _ rfl (by kernel_rfl) (ldT_int (w := wr.drew) q0)) (ex_load 3 _ (.pointer (some ⟨b1, o1 + k * 4, none⟩)) _ rfl (by kernel_rfl) (ldT_int (w := wr.drew) p0)) (ex_load 3 _ (.pointer (some ⟨b2, o2 + k * 4, none⟩)) _ rfl (by kernel_rfl) (ldT_int (w := wr.drew) q0)) rfl ?_
          simp only [Act.put, List.setIfInBounds_toArray, List.set_cons_zero, List.set_cons_succ]
          refine zzA 22 (.bool false) (some 145) rfl (fun _ => ex_binOp .neq 3 3 _ _ (.int .i64 (pt : Int)) (.int .i64 (pt : Int)) _ rfl (by kernel_rfl) (by kernel_rfl) (by go_simp)) ?_
          refine zzA 23 (.bool false) (some 146) rfl (fun _ => ex_pick _ _ _ false (.bool true) (.bool false) rfl (by kernel_rfl) (by kernel_rfl) (by kernel_rfl)) ?_
          refine zzM 24 (.bool false) (some 147) rfl ?_
          refine zzM 25 (.slice (some ⟨b1, o1, none⟩) PP.length cp) (some 148) rfl ?_
          refine zzM 26 (.int .i64 (k : Int)) (some 149) rfl ?_
          refine zzA 27 (.pointer (some ⟨b1, o1 + k * 4, none⟩)) (some 150) rfl (fun _ => ex_indexAddr 43 _ _ (.slice (some ⟨b1, o1, none⟩) PP.length cp) (.int .i64 (k : Int)) _ rfl (by kernel_rfl) (by kernel_rfl) (by go_simp)) ?_
          refine zzA 28 (.pointer (some ⟨b1, o1 + k * 4 + 3, none⟩)) (some 151) rfl (fun _ => ex_fieldAddr 56 _ 2 (.pointer (some ⟨b1, o1 + k * 4, none⟩)) _ rfl (by kernel_rfl) (by go_simp)) ?_
          refine zzM 31 (.slice (some ⟨b2, o2, none⟩) PP.length cq) (some 154) rfl ?_
          refine zzM 32 (.int .i64 (k : Int)) (some 155) rfl ?_
          refine zzA 33 (.pointer (some ⟨b2, o2 + k * 4, none⟩)) (some 156) rfl (fun _ => ex_indexAddr 43 _ _ (.slice (some ⟨b2, o2, none⟩) PP.length cq) (.int .i64 (k : Int)) _ rfl (by kernel_rfl) (by kernel_rfl) (by go_simp)) ?_
          refine zzA 34 (.pointer (some ⟨b2, o2 + k * 4 + 3, none⟩)) (some 157) rfl (fun _ => ex_fieldAddr 56 _ 2 (.pointer (some ⟨b2, o2 + k * 4, none⟩)) _ rfl (by kernel_rfl) (by go_simp)) ?_
          simp only [Act.put, List.setIfInBounds_toArray, List.set_cons_zero, List.set_cons_succ]
          refine wpAny_two 29 35 (by kernel_rfl) rfl rfl (by kernel_rfl) (by kernel_rfl) ?_ ?_
          · refine wp_of_val (v := .slice A1 xs.length c1) (ex_load 24 _ (.pointer (some ⟨b1, o1 + k * 4 + 3, none⟩)) _ rfl (by kernel_rfl) (ldT_items (w := wr.drew) ((HBd.out.cell (p := ⟨b1, o1 + k * 4 + 3, none⟩) hb1).trans p3))) ?_
            simp only [Act.put, List.setIfInBounds_toArray, List.set_cons_zero, List.set_cons_succ]
            refine wpAny_two 30 35 (by kernel_rfl) rfl rfl (by kernel_rfl) (by kernel_rfl) ?_ ?_
            · refine wp_of_call (ex_call1 (.tmp 152) _ (.slice A1 xs.length c1) rfl (by kernel_rfl) (enters_of Tryz.func30 (by kernel_rfl) rfl _ _)) (CT.out _ _ _ (RdE.below HSp.out HBd.out (Nat.le_refl _))) ?_
              rintro e Wa ⟨v, rfl, ho, hb⟩
              obtain ⟨Atp, ctp, rfl⟩ := own_shape ho
              have HTtp := Lib.hid (OwnE.rd tkC_three ho)
              have HBa := Lib.hid (HBd.out.trans (hb.mono HBd.out.size))
              clear ho hb
              refine ⟨.slice Atp (tokensL xs).length ctp, rfl, ?_⟩
              simp only [Act.put, List.setIfInBounds_toArray, List.set_cons_zero, List.set_cons_succ]
              refine wpAny_only 35 (by kernel_rfl) rfl (by kernel_rfl) ?_
              refine wp_of_val (v := .slice A2s xs.length c2s) (ex_load 24 _ (.pointer (some ⟨b2, o2 + k * 4 + 3, none⟩)) _ rfl (by kernel_rfl) (ldT_items (w := Wa) ((HBa.out.cell (p := ⟨b2, o2 + k * 4 + 3, none⟩) hb2).trans q3))) ?_
              simp only [Act.put, List.setIfInBounds_toArray, List.set_cons_zero, List.set_cons_succ]
              refine wpAny_only 36 (by kernel_rfl) rfl (by kernel_rfl) ?_
              refine wp_of_call (ex_call1 (.tmp 158) _ (.slice A2s xs.length c2s) rfl (by kernel_rfl) (enters_of Tryz.func30 (by kernel_rfl) rfl _ _)) (CT.out _ _ _ (RdE.below HSq.out HBa.out (Nat.le_refl _))) ?_
              rintro e Wb ⟨v, rfl, ho, hb⟩
              obtain ⟨Atq, ctq, rfl⟩ := own_shape ho
              have HTtq := Lib.hid (OwnE.rd tkC_three ho)
              have HUtp := Lib.hid (RdE.below HTtp.out hb (Nat.le_refl _))
              have HBb := Lib.hid (HBa.out.trans (hb.mono HBa.out.size))
              clear ho hb
              refine ⟨.slice Atq (tokensL xs).length ctq, rfl, ?_⟩
              simp only [Act.put, List.setIfInBounds_toArray, List.set_cons_zero, List.set_cons_succ]
              refine wpAny_only 37 (by kernel_rfl) rfl (by kernel_rfl) ?_
              refine wp_of_call (ex_call2 (.tmp 153) (.tmp 159) _ (.slice Atp (tokensL xs).length ctp) (.slice Atq (tokensL xs).length ctq) rfl (by kernel_rfl) (by kernel_rfl) (enters_of Tryz.func29 (by kernel_rfl) rfl _ _)) (CSM.out _ _ _ HUtp.out HTtq.out) ?_
              rintro e w' ⟨rfl, n1, rfl⟩
              refine ⟨.bool true, rfl, ?_⟩
              simp only [Act.put, List.setIfInBounds_toArray, List.set_cons_zero, List.set_cons_succ]
              refine zzA 38 (.bool false) (some 161) rfl (fun _ => ex_unOp .not 4 _ (.bool true) _ rfl (by kernel_rfl) (by go_simp)) ?_
              refine zzA 39 (.bool false) (some 162) rfl (fun _ => ex_pick _ _ _ false (.bool true) (.bool false) rfl (by kernel_rfl) (by kernel_rfl) (by kernel_rfl)) ?_
              refine wpAny_done (by kernel_rfl) ?_ _
              simp only [Act.put, List.setIfInBounds_toArray, List.set_cons_zero, List.set_cons_succ]
              go_wp2_with fail
              go_roundg (PP.length - (k + 1))
              case measure => omega
              case rel => exact ⟨k + 1, rfl, hkl, HBr.out.trans ((below_drewN HBb.out n1).mono HBr.out.size), Nat.le_refl _⟩
            · refine wp_of_val (v := .slice A2s xs.length c2s) (ex_load 24 _ (.pointer (some ⟨b2, o2 + k * 4 + 3, none⟩)) _ rfl (by kernel_rfl) (ldT_items (w := wr.drew) ((HBd.out.cell (p := ⟨b2, o2 + k * 4 + 3, none⟩) hb2).trans q3))) ?_
              simp only [Act.put, List.setIfInBounds_toArray, List.set_cons_zero, List.set_cons_succ]
              refine wpAny_only 30 (by kernel_rfl) rfl (by kernel_rfl) ?_
              refine wp_of_call (ex_call1 (.tmp 152) _ (.slice A1 xs.length c1) rfl (by kernel_rfl) (enters_of Tryz.func30 (by kernel_rfl) rfl _ _)) (CT.out _ _ _ (RdE.below HSp.out HBd.out (Nat.le_refl _))) ?_
              rintro e Wa ⟨v, rfl, ho, hb⟩
              obtain ⟨Atp, ctp, rfl⟩ := own_shape ho
              have HTtp := Lib.hid (OwnE.rd tkC_three ho)
              have HBa := Lib.hid (HBd.out.trans (hb.mono HBd.out.size))
              clear ho hb
              refine ⟨.slice Atp (tokensL xs).length ctp, rfl, ?_⟩
              simp only [Act.put, List.setIfInBounds_toArray, List.set_cons_zero, List.set_cons_succ]
              refine wpAny_only 36 (by kernel_rfl) rfl (by kernel_rfl) ?_
              refine wp_of_call (ex_call1 (.tmp 158) _ (.slice A2s xs.length c2s) rfl (by kernel_rfl) (enters_of Tryz.func30 (by kernel_rfl) rfl _ _)) (CT.out _ _ _ (RdE.below HSq.out HBa.out (Nat.le_refl _))) ?_
              rintro e Wb ⟨v, rfl, ho, hb⟩
              obtain ⟨Atq, ctq, rfl⟩ := own_shape ho
              have HTtq := Lib.hid (OwnE.rd tkC_three ho)
              have HUtp := Lib.hid (RdE.below HTtp.out hb (Nat.le_refl _))
              have HBb := Lib.hid (HBa.out.trans (hb.mono HBa.out.size))
              clear ho hb
              refine ⟨.slice Atq (tokensL xs).length ctq, rfl, ?_⟩
              simp only [Act.put, List.setIfInBounds_toArray, List.set_cons_zero, List.set_cons_succ]
              refine wpAny_only 37 (by kernel_rfl) rfl (by kernel_rfl) ?_
              refine wp_of_call (ex_call2 (.tmp 153) (.tmp 159) _ (.slice Atp (tokensL xs).length ctp) (.slice Atq (tokensL xs).length ctq) rfl (by kernel_rfl) (by kernel_rfl) (enters_of Tryz.func29 (by kernel_rfl) rfl _ _)) (CSM.out _ _ _ HUtp.out HTtq.out) ?_
              rintro e w' ⟨rfl, n1, rfl⟩
              refine ⟨.bool true, rfl, ?_⟩
              simp only [Act.put, List.setIfInBounds_toArray, List.set_cons_zero, List.set_cons_succ]
              refine zzA 38 (.bool false) (some 161) rfl (fun _ => ex_unOp .not 4 _ (.bool true) _ rfl (by kernel_rfl) (by go_simp)) ?_
              refine zzA 39 (.bool false) (some 162) rfl (fun _ => ex_pick _ _ _ false (.bool true) (.bool false) rfl (by kernel_rfl) (by kernel_rfl) (by kernel_rfl)) ?_
              refine wpAny_done (by kernel_rfl) ?_ _
              simp only [Act.put, List.setIfInBounds_toArray, List.set_cons_zero, List.set_cons_succ]
              go_wp2_with fail
              go_roundg (PP.length - (k + 1))
              case measure => omega
              case rel => exact ⟨k + 1, rfl, hkl, HBr.out.trans ((below_drewN HBb.out n1).mono HBr.out.size), Nat.le_refl _⟩
          · refine wp_of_val (v := .slice A2s xs.length c2s) (ex_load 24 _ (.pointer (some ⟨b2, o2 + k * 4 + 3, none⟩)) _ rfl (by kernel_rfl) (ldT_items (w := wr.drew) ((HBd.out.cell (p := ⟨b2, o2 + k * 4 + 3, none⟩) hb2).trans q3))) ?_
            simp only [Act.put, List.setIfInBounds_toArray, List.set_cons_zero, List.set_cons_succ]
            refine wpAny_only 29 (by kernel_rfl) rfl (by kernel_rfl) ?_
            refine wp_of_val (v := .slice A1 xs.length c1) (ex_load 24 _ (.pointer (some ⟨b1, o1 + k * 4 + 3, none⟩)) _ rfl (by kernel_rfl) (ldT_items (w := wr.drew) ((HBd.out.cell (p := ⟨b1, o1 + k * 4 + 3, none⟩) hb1).trans p3))) ?_
            simp only [Act.put, List.setIfInBounds_toArray, List.set_cons_zero, List.set_cons_succ]
            refine wpAny_only 30 (by kernel_rfl) rfl (by kernel_rfl) ?_
            refine wp_of_call (ex_call1 (.tmp 152) _ (.slice A1 xs.length c1) rfl (by kernel_rfl) (enters_of Tryz.func30 (by kernel_rfl) rfl _ _)) (CT.out _ _ _ (RdE.below HSp.out HBd.out (Nat.le_refl _))) ?_
            rintro e Wa ⟨v, rfl, ho, hb⟩
            obtain ⟨Atp, ctp, rfl⟩ := own_shape ho
            have HTtp := Lib.hid (OwnE.rd tkC_three ho)
            have HBa := Lib.hid (HBd.out.trans (hb.mono HBd.out.size))
            clear ho hb
            refine ⟨.slice Atp (tokensL xs).length ctp, rfl, ?_⟩
            simp only [Act.put, List.setIfInBounds_toArray, List.set_cons_zero, List.set_cons_succ]
            refine wpAny_only 36 (by kernel_rfl) rfl (by kernel_rfl) ?_
            refine wp_of_call (ex_call1 (.tmp 158) _ (.slice A2s xs.length c2s) rfl (by kernel_rfl) (enters_of Tryz.func30 (by kernel_rfl) rfl _ _)) (CT.out _ _ _ (RdE.below HSq.out HBa.out (Nat.le_refl _))) ?_
            rintro e Wb ⟨v, rfl, ho, hb⟩
            obtain ⟨Atq, ctq, rfl⟩ := own_shape ho
            have HTtq := Lib.hid (OwnE.rd tkC_three ho)
            have HUtp := Lib.hid (RdE.below HTtp.out hb (Nat.le_refl _))
            have HBb := Lib.hid (HBa.out.trans (hb.mono HBa.out.size))
            clear ho hb
            refine ⟨.slice Atq (tokensL xs).length ctq, rfl, ?_⟩
            simp only [Act.put, List.setIfInBounds_toArray, List.set_cons_zero, List.set_cons_succ]
            refine wpAny_only 37 (by kernel_rfl) rfl (by kernel_rfl) ?_
            refine wp_of_call (ex_call2 (.tmp 153) (.tmp 159) _ (.slice Atp (tokensL xs).length ctp) (.slice Atq (tokensL xs).length ctq) rfl (by kernel_rfl) (by kernel_rfl) (enters_of Tryz.func29 (by kernel_rfl) rfl _ _)) (CSM.out _ _ _ HUtp.out HTtq.out) ?_
            rintro e w' ⟨rfl, n1, rfl⟩
            refine ⟨.bool true, rfl, ?_⟩
            simp only [Act.put, List.setIfInBounds_toArray, List.set_cons_zero, List.set_cons_succ]
            refine zzA 38 (.bool false) (some 161) rfl (fun _ => ex_unOp .not 4 _ (.bool true) _ rfl (by kernel_rfl) (by go_simp)) ?_
            refine zzA 39 (.bool false) (some 162) rfl (fun _ => ex_pick _ _ _ false (.bool true) (.bool false) rfl (by kernel_rfl) (by kernel_rfl) (by kernel_rfl)) ?_
            refine wpAny_done (by kernel_rfl) ?_ _
            simp only [Act.put, List.setIfInBounds_toArray, List.set_cons_zero, List.set_cons_succ]
            go_wp2_with fail
            go_roundg (PP.length - (k + 1))
            case measure => omega
            case rel => exact ⟨k + 1, rfl, hkl, HBr.out.trans ((below_drewN HBb.out n1).mono HBr.out.size), Nat.le_refl _⟩
          -- END
        · obtain rfl : k = PP.length := by omega
          have HBe := Lib.hid (HBz.out.trans (HBr.out.mono HBz.out.size))
          go_wp2_with (go_at_call 7; refine (CK.out _ (by exact HBe.out)).mono ?_; rintro e w1 ⟨rfl, hb1⟩; have HBk := Lib.hid (HBe.out.trans (hb1.mono HBe.out.size)); clear hb1)
          go_ret
          exact ⟨rfl, HBk.out⟩))

theorem walk_TopConverts (A : Option Addr) (n c : Nat) (l : List Int) (A2 : Option Addr) (n2 c2 : Nat) (l2 : List Int) (w : World) (hg : Got w) (h0 : n = l.length ∧ l.length ≤ maxLen ∧ RdE intC 1 w (.slice A n c) l ∧ ∀ x ∈ l, IntIn x) (h1 : n2 = l2.length ∧ l2.length ≤ maxLen ∧ RdE intC 1 w (.slice A2 n2 c2) l2 ∧ ∀ x ∈ l2, IntIn x) :
    Calls Tryz.prog 6 #[.slice A n c, .slice A2 n2 c2] w fun e w' => e = .returned (.bool true) ∧ Below w.heap.size w w' := by
  obtain ⟨rfl, hlm, hr, hin⟩ := h0
  obtain ⟨rfl, hlm2, hr2, hin2⟩ := h1
  obtain ⟨m, hm⟩ := hg
  exact topConverts_any m l l2 A A2 c c2 w hm hr hin hr2 hin2

end Go.Proofs.YtfkojnofbpdjdaaGreatDoor
