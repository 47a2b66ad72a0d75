
/-
  TopKeeps: a document whose segments are replaced by their own sources.
-/
import Derived.Test.YtfkojnofbpdjdaaGreatDoorPackK6
import Derived.Test.YtfkojnofbpdjdaaGreatDoorPackK7
import Derived.Test.YtfkojnofbpdjdaaGreatDoorPackK1
set_option linter.unusedVariables false
set_option linter.unusedSimpArgs false
set_option maxHeartbeats 16000000
set_option maxRecDepth 100000

namespace Go.Proofs.YtfkojnofbpdjdaaGreatDoor
open Go.RowKit
theorem V1s (l:List Pc) (i:Nat) (h:i < l.length):(l.take (i+1)).map (fun p=>p.src)=(l.take i).map (fun p=>p.src)++[l[i].src]:=by
  rw [List.take_succ_eq_append_getElem h,List.map_append];rfl
set_option maxRecDepth 100000 in
set_option maxHeartbeats 8000000 in
theorem Y2y (m : Int) (L : List Int) (A : Option Addr) (c : Nat) (w : World) (hm : w.cell? ⟨0, 0, none⟩ = some (.int .i64 m)) (h : RdE V6 1 w (.slice A L.length c) L) (hin : ∀ x ∈ L, I4 x) :
    Calls Tryz.prog 5 #[.slice A L.length c] w (fun e w'=>e=.returned (.bool true)∧Below w.heap.size w w'):=by
  have CK:=zW (fun (W:World) (hW:Below w.heap.size w W)=>Y2z m W (X6 hm hW));have Hm:=zW (Below.refl w.heap.size w);by_cases hl1:200 < L.length
  · have ia:(200:Int) < (L.length:Int):=yY
    clear h hin hm;go_enter Tryz.func5,Tryz.ntmps5
    go_wp2_with (go_at_call 7;refine (CK.o _ (by exact Hm.o)).mono ?_;rintro e w1 ⟨rfl,hM⟩;have hH:=zW hM;clear hM)
    go_ret
    exact ⟨rfl,hH.o⟩
  have ia:¬ (200:Int) < (L.length:Int):=yY;have hf:=Z9y L;obtain ⟨HD,HC,HE⟩:=Y5l L 1 3 yX (mdF L) hf;have HH:∀ u∈(mdD L).un.1,UnitW (mdF L) u.ts:=fun u hu=>by
    obtain ⟨M,e⟩:=Z5i L 1 3 yX (mdF L) hf u hu;rw [e];exact V9x (mdF L) hf L M
  have HK:=zW (fun hs=>V9k m (mdF L) hf (mdD L) HD HC HE hs HH);have Hn:yK (Z0 (mdD L).ps=(mdD L).data):=(mdD L).bytes;have CM:=zW (Z9x L A c w h hin);have HM:yK (∀ W,Below w.heap.size w W→W.cell? ⟨0,0,none⟩=some (.int .i64 m)):=fun W hW=>X6 hm hW;have CSN:=zW (fun W=>Y7e W);clear h hin hm HD HC HE HH hl1;generalize ksU (mdD L).un.1 0=ks at *;generalize (mdD L).data=dat at *;generalize (mdD L).ps=ps at *;generalize mdF L=fmt at *;go_enter Tryz.func5,Tryz.ntmps5
  go_upto_region 4 with (go_at_call 17;refine (CM.o).mono ?_;rintro e w1 ⟨A1,c1,rfl,ho,hl,hb⟩;have Hs:=zW ho;have HL:=zW hl;have hH:=zW hb;clear ho hl hb)
  obtain ⟨pe,hg⟩:=HK.o HL.o;have hP:=zW ((OwnE.rd K0 Hs.o).below ((Below.refl w1.heap.size w1).alloc yQ (.cells #[.int .i64 fmt,.slice A1 ps.length c1] 41)) yQ);have hB:=zW (hH.o.alloc hH.o.size (.cells #[.int .i64 fmt,.slice A1 ps.length c1] 41));have hy:yK ((w1.alloc (.cells #[.int .i64 fmt,.slice A1 ps.length c1] 41)).heap[w1.heap.size]? =some (.cells #[.int .i64 fmt,.slice A1 ps.length c1] 41)):=heap_alloc_new w1 _;generalize w1.alloc (.cells #[.int .i64 fmt,.slice A1 ps.length c1] 41)=w2 at hP hB hy ⊢;generalize w1.heap.size=gd at hy ⊢;clear Hs hH Hm CM HK;have ha:gd < w2.heap.size:=V2 hy.o;have im:=hg.un.len;have Hz:(Z0 ps).length≤1000000:=(by rw [Hn.o];have:=HL.o;omega);have ig:=hg.len;have CP:=zW (fun (A:Option Addr) (c:Nat) (vr:Value) (W:World) (hW:Below w.heap.size w W) hp hr=>Y9o m fmt ps ks hg.un A c vr W (HM.o W hW) hp hr);have ih:=Y7t hg.un;have HJ:=Q4t hg.un ks.length;rw [List.take_length] at HJ;have Hk:(O4 ks).length≤1000000:=by
    have:1000 * ks.length≤1000 * 1000:=Nat.mul_le_mul_left _ ih;omega
  have hA:=hg.un.idx;have hq:K3 ps 0=(ks.map fun x=>x.1).map fun (k:Nat)=>(k:Int):=(by rw [hA,List.map_map];rfl);have CT:=zW (fun (A A1 A2:Option Addr) (c c1 c2:Nat) (W:World) (hW:Below w.heap.size w W) hp ij hT=>X7x m fmt ps pe (O4 ks) ((O4 ks).map fun p=>p.src) (ks.map fun x=>x.1) hq hg.tr (by rw [List.length_map]) Hk yY A A1 A2 c c1 c2 W (HM.o W hW) hp ij hT);have CB:=zW (fun (A:Option Addr) (c:Nat) (W:World) hp=>Q6v fmt ps A c W hp yY Hz);have CRB:=zW (fun (A:Option Addr) (c:Nat) (W:World) hp=>Y9y fmt ps A c W hp yY Hz);have CU:=zW (fun (A:Option Addr) (c:Nat) (W:World) hp=>X3c fmt ps A c W hp yY);rw [hA] at CU;have CC:=zW (fun (x:Nat×List Tk) (hx:x∈ks) (A:Option Addr) (c:Nat) (W:World) (hW:Below w.heap.size w W) hp=>by
    obtain ⟨h1,h2,h3,_⟩:=hg.un.each x hx;exact Q0l m fmt hf ps x.2 x.1 h1 h2 h3 A c W (HM.o W hW) hp yY)
  have CE:=zW (fun (x:Nat×List Tk) (hx:x∈ks) (A:Option Addr) (c:Nat) (W:World) (hW:Below w.heap.size w W) hp=>by
    obtain ⟨h1,h2,h3⟩:=hg.each x hx;exact Q0l m fmt hf pe x.2 x.1 h1 h2 h3 A c W (HM.o W hW) hp yY)
  have Hr:yK (∀ x∈ks,x.2.length≤1000):=fun x hx=>by
    obtain ⟨_,_,_,_,h5⟩:=hg.un.each x hx;exact h5
  clear hg hA hq HM Hn HL HJ;rw [List.length_map] at CT;generalize O4 ks=PP at *;rw [ig] at CT CE;obtain ⟨d0,d1⟩:=Q1u hy.o;go_cut [4,5] (fun v4 v5 wx=>∃ (Ap:Option Addr) (cp:Nat),v4=.slice Ap PP.length cp∧v5=.bool true∧yK (RdPc wx (.slice Ap PP.length cp) PP)∧yK (Below w2.heap.size w2 wx))
  case first=>
    go_region_with (first
      | (go_at_call 19;refine (CSN.o _).mono ?_;rintro e W11 ⟨vr,rfl,hr,hb⟩;have Hf:=zW hr;have hc:=zW ((Q1 (Below.refl w2.heap.size w2) 1).trans hb);obtain ⟨u0,u1⟩:=Q1u ((hc.o.block gd ha).trans hy.o);clear hr hb)
      | (go_at_call 18;refine (CP.o _ _ _ _ (by exact hB.o.trans (hc.o.mono hB.o.size)) (by exact RdE.below hP.o hc.o yQ) (by exact Hf.o)).mono ?_;rintro e W12 ⟨v,rfl,⟨ys,HP⟩,hb⟩;have HY:=zW HP.rd;have hV:=zW (hc.o.trans (hb.mono hc.o.size));clear HP hb))
    all_goals (
      obtain ⟨Ap,cp,hv,_⟩:=HY.o.shape;subst hv;go_wp2_with fail
      go_meet
      exact ⟨Ap,cp,rfl,rfl,HY.o,hV.o⟩)
  case rest=>
    obtain ⟨Ap,cp,rfl,rfl,He,hO⟩:=hcut;generalize wc=w4 at *;have hQ:=zW ((hO.o.block gd ha).trans hy.o);have Ht:=zW (RdE.below hP.o hO.o yQ);have hZ:=zW (hB.o.trans (hO.o.mono hB.o.size));clear hy hP hB hO ha d0 d1 CP CSN;rename_i w4;have ha:gd < w4.heap.size:=V2 hQ.o;obtain ⟨d0,d1⟩:=Q1u hQ.o;go_upto_region 7 with fail
    go_loopg [6,30] PP.length (fun gk v6 iv wz=>∃ (i:Nat) (ys:List Tv),iv=.int .i64 (i:Nat)∧i≤PP.length∧yK (TtO w4 w4.heap.size wz v6 ((PP.take i).map fun p=>p.src) ys)∧yK (Below w4.heap.size w4 wz)∧PP.length - i≤gk)
    case atStart=>exact ⟨0,[],rfl,Nat.zero_le _,TtO.nil,Below.refl _ _,yQ⟩
    case round=>
      obtain ⟨i,ys,rfl,hi,hk,HB,hgk⟩:=hrel;by_cases hlt:i < PP.length
      · have hU:=HB.o
        obtain ⟨bp,op,A9,c9,ib,ie,_,_,_,s3,hs⟩:=RdPc.at_ He.o i hlt;subst ib;have r3:wr.cell? ⟨bp,op+i * 4+3,none⟩=some (.slice A9 PP[i].src.length c9):=(hU.cell (p:=⟨bp,op+i * 4+3,none⟩) ie).trans s3;have HS:=zW hs;have HZ:=zW (V1s PP i hlt);have HO:=hk.o.len;rw [List.length_map,List.length_take] at HO;have il:ys.length≤1000000:=yY;generalize PP[i].src=sx at *;have hK:=zW (hk.o.below ((Below.refl wr.heap.size wr).alloc yQ (.cells #[.slice A9 sx.length c9] 24)));have Ho:=zW (hU.alloc hU.size (.cells #[.slice A9 sx.length c9] 24));clear s3 hs hU hk HB HO;go_wp2_with (at_builtin;refine V1 rfl (.tmp 33) (.tmp 39) 48 24 rfl Tryz.underlying48 _ tvC 1 24 Z3t rfl yX X4u Z3s w4.heap.size _ ys rfl (by exact hK.o.own) _ [⟨sx,A9,c9⟩] rfl (by exact Z6 tvC 1 X4u _ _ yW ⟨sx,A9,c9⟩ _) yV yX Ho.o.size ?_;intro v8 w8 ht hn Hh;have HX:=zW (hK.o.push ⟨sx,A9,c9⟩ HS.o ht);have hD:=zW (hn w4.heap.size w4 yQ Ho.o);clear ht hn Hh)
        go_roundg (PP.length - (i+1))
        case measure=>omega
        case rel=>exact ⟨i+1,ys++[⟨sx,A9,c9⟩],rfl,hlt,by rw [HZ.o];exact HX.o,hD.o,yQ⟩
      · obtain rfl:i=PP.length:=yY
        rw [List.take_length] at hk;obtain ⟨At,ct,Hl⟩:=Q0 hk.o.own;rw [hk.o.len] at Hl;rw [List.length_map] at Hl;subst Hl;have Hu:=zW (hk.o.rd HB.o);have hR:=zW ((HB.o.block gd ha).trans hQ.o);have Hc:=zW (RdE.below Ht.o HB.o yQ);have hJ:=zW (RdPc.below He.o HB.o);have he:=zW (hZ.o.trans (HB.o.mono hZ.o.size));clear hQ Ht He hZ HB hk d0 d1 ha;have ha:gd < wr.heap.size:=V2 hR.o;obtain ⟨d0,d1⟩:=Q1u hR.o;go_upto_region 12 with (go_at_call 23;refine (CT.o _ _ _ _ _ _ _ (by exact he.o) (by exact Hc.o) (by exact hJ.o) (by exact Hu.o)).mono ?_;rintro e w6 ⟨A6,c6,rfl,HI,Hy⟩;have Hp:=zW HI;have hC:=zW Hy;clear HI Hy)
        have hN:=(Below.refl w6.heap.size w6).alloc yQ (.cells #[.int .i64 fmt,.slice A6 ps.length c6] 41);have hG:=zW ((hN.block gd (by have:=hC.o.size;omega)).trans ((hC.o.block gd ha).trans hR.o));have hL:yK ((w6.alloc (.cells #[.int .i64 fmt,.slice A6 ps.length c6] 41)).heap[w6.heap.size]? =some (.cells #[.int .i64 fmt,.slice A6 ps.length c6] 41)):=heap_alloc_new w6 _;have hI:=zW (RdE.below (RdE.below Hc.o hC.o yQ) hN yQ);have Hb:=zW (RdE.below Hp.o hN yQ);have hh:=zW ((he.o.trans (hC.o.mono he.o.size)).trans (hN.mono (Nat.le_trans he.o.size hC.o.size)));clear hN hR Hc hJ he Hu hC Hp d0 d1 ha CT;generalize w6.alloc (.cells #[.int .i64 fmt,.slice A6 ps.length c6] 41)=w7 at hG hL hI Hb hh ⊢;generalize w6.heap.size=gx at hL ⊢;have ha:gd < w7.heap.size:=V2 hG.o;have hz:gx < w7.heap.size:=V2 hL.o;obtain ⟨d0,d1⟩:=Q1u hG.o;generalize ofL (Z0 ps)=bt at CB CRB;have ii:(bt.toList != bt.toList)=false:=yW;go_cut [61] (fun v wx=>v=.bool false∧yK (Below w7.heap.size w7 wx))
        case first=>
          go_region_with (first
            | (go_at_call 24;refine (CB.o _ _ _ (by exact RdE.drew hI.o)).mono ?_;rintro e w8 ⟨rfl,hb⟩;have hD:=zW ((Q1 (Below.refl w7.heap.size w7) 1).trans hb);obtain ⟨u0,u1⟩:=Q1u ((hD.o.block gd ha).trans hG.o);clear hb)
            | (go_at_call 25;refine (CRB.o _ _ _ (by exact RdE.below hI.o hD.o yQ)).mono ?_;rintro e w9 ⟨rfl,hb⟩;have HQ:=zW (hD.o.trans (hb.mono hD.o.size));clear hb))
          all_goals (
            go_wp2_with fail
            go_meet
            exact ⟨rfl,HQ.o⟩)
        case rest=>
          obtain ⟨rfl,hF⟩:=hcut;generalize wc=w8 at *;have hS:=zW ((hF.o.block gd ha).trans hG.o);have Hg:=zW ((hF.o.block gx hz).trans hL.o);have Hd:=zW (RdE.below hI.o hF.o yQ);have Hq:=zW (RdE.below Hb.o hF.o yQ);have hw:=zW (hh.o.trans (hF.o.mono hh.o.size));clear hG hL hI Hb hh hF ha hz d0 d1 ii CB CRB;obtain ⟨d0,d1⟩:=Q1u hS.o;go_upto_region 15 with (go_at_call 26;refine (CU.o _ _ _ (by exact Hd.o)).mono ?_;rintro e w9 ⟨vu,rfl,Hj,HA⟩;have HU:=zW (OwnE.rd J9 Hj);have hE:=zW HA;obtain ⟨Au,cu,HN⟩:=Q0 Hj;rw [List.length_map] at HN;subst HN;clear Hj HA)
          have ha:gd < w8.heap.size:=V2 hS.o;have hz:gx < w8.heap.size:=V2 Hg.o;have Hv:=zW ((hE.o.block gd ha).trans hS.o);have Hw:=zW ((hE.o.block gx hz).trans Hg.o);have HV:=zW (RdE.below Hd.o hE.o yQ);have HR:=zW (RdE.below Hq.o hE.o yQ);have hj:=zW (hw.o.trans (hE.o.mono hw.o.size));clear hS Hg Hd Hq hw hE ha hz d0 d1 CU;have ha:gd < w9.heap.size:=V2 Hv.o;have hz:gx < w9.heap.size:=V2 Hw.o;go_loopg [65] ks.length (fun gk iv wz=>∃ (i:Nat),iv=.int .i64 (i:Nat)∧i≤ks.length∧yK (Below w9.heap.size w9 wz)∧ks.length - i≤gk)
          case atStart=>exact ⟨0,rfl,Nat.zero_le _,Below.refl _ _,yQ⟩
          case round=>
            obtain ⟨i,rfl,hi,HB,hgk⟩:=hrel;by_cases hlt:i < ks.length
            · obtain ⟨b,o,ic,hb,c0⟩:=Q3y (RdE.below HU.o HB.o yQ) i (by rw [List.length_map];exact hlt)
              subst ic;rw [List.getElem_map] at c0;have hx:ks[i]∈ks:=List.getElem_mem hlt;have CCx:=zW (CC.o _ hx);have CEx:=zW (CE.o _ hx);have ik:=Hr.o _ hx;generalize ks[i]=x at *;obtain ⟨kx,fx⟩:=x;simp only at c0 CCx CEx ik;have CSM:=zW (fun (v u:Value) (W:World) (h1:RdT W v fx) (h2:RdT W u fx)=>Z6p fx v u W h1 h2 yY);obtain ⟨d0,d1⟩:=Q1u ((HB.o.block gd ha).trans Hv.o);have hY:=zW (hj.o.trans (HB.o.mono hj.o.size));have HW:=zW (RdE.below HV.o HB.o yQ);have HEq:=zW (RdE.below HR.o HB.o yQ);have Hx:=zW ((HB.o.block gx hz).trans Hw.o);have Hi:gx < wr.heap.size:=V2 Hx.o;clear CC CE Hr;go_upto_region 18 with (go_at_call 27;refine (CCx.o _ _ _ (by exact hY.o) (by exact HW.o)).mono ?_;rintro e w10 ⟨v,rfl,ho,hb⟩;have HF:=zW (OwnE.rd Q5 ho);have hd:=zW hb;clear ho hb)
              clear d0 d1 c0 hb;obtain ⟨d0,d1⟩:=Q1u ((hd.o.block gx Hi).trans Hx.o);go_upto_region 19 with (go_at_call 27;refine (CEx.o _ _ _ (by exact hY.o.trans (hd.o.mono hY.o.size)) (by exact RdE.below HEq.o hd.o yQ)).mono ?_;rintro e w11 ⟨v2,rfl,ho,hb⟩;have HG:=zW (OwnE.rd Q5 ho);have HT:=zW (RdE.below HF.o hb yQ);have hc:=zW (hd.o.trans (hb.mono hd.o.size));clear ho hb)
              go_wp2_with (go_at_call 16;refine (CSM.o _ _ _ (by exact HT.o) (by exact HG.o)).mono ?_;rintro e w12 ⟨rfl,n1,rfl⟩)
              go_roundg (ks.length - (i+1))
              case measure=>omega
              case rel=>exact ⟨i+1,rfl,hlt,HB.o.trans ((Q1 hc.o n1).mono HB.o.size),yQ⟩
            · obtain rfl:i=ks.length:=yY
              have Ha:=zW (hj.o.trans (HB.o.mono hj.o.size));go_wp2_with (go_at_call 7;refine (CK.o _ (by exact Ha.o)).mono ?_;rintro e w20 ⟨rfl,hM⟩;have hX:=zW (Ha.o.trans (hM.mono Ha.o.size));clear hM)
              go_ret
              exact ⟨rfl,hX.o⟩
theorem walk_TopKeeps (A : Option Addr) (n c : Nat) (l : List Int) (w : World) (hg : Got w) (h0 : n = l.length ∧ l.length ≤ maxLen ∧ RdE V6 1 w (.slice A n c) l ∧ ∀ x ∈ l, I4 x) :
    Calls Tryz.prog 5 #[.slice A n c] w fun e w'=>e=.returned (.bool true)∧Below w.heap.size w w':=by
  obtain ⟨rfl,hb,hr,ha⟩:=h0;obtain ⟨m,hm⟩:=hg;exact Y2y m l A c w hm hr ha
end Go.Proofs.YtfkojnofbpdjdaaGreatDoor
