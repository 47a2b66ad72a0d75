/-
  Contracts and plain laws that this claim leans on, part 5.
-/
import Derived.Test.YtfkojnofbpdjdaaGreatDoorPackK1
import Derived.Test.YtfkojnofbpdjdaaGreatDoorPackK4
import Derived.Test.YtfkojnofbpdjdaaGreatDoorPackK3
import Derived.Test.YtfkojnofbpdjdaaGreatDoorPackK2
import Derived.Deep.LoopGhost
import Derived.BigQuiet
set_option linter.unusedVariables false
set_option linter.unusedSimpArgs false
set_option maxHeartbeats 16000000
set_option maxRecDepth 100000
namespace Go.Proofs.YtfkojnofbpdjdaaGreatDoor
open Go.RowKit
def Y6 (r:Nat×Nat):List Value:=[.int .i64 (r.1:Int),.int .i64 (r.2:Int)]
theorem W8 (r:Nat×Nat):(Y6 r).length=2:=rfl
theorem Q4v:(Tryz.prog.info? 54).map (fun i=>(i.zero,i.size,i.bytes))=some (some (.agg #[.int .i64 0,.int .i64 0]),2,16):=by kernel_rfl
theorem Z6b (r:Nat×Nat):∀ u∈Y6 r,u.oneCell'=true:=by
 intro u hu;simp [Y6] at hu;rcases hu with rfl | rfl<;>rfl
theorem V8u {w:World} {b:Nat} {v0 v1:Value} {t:TypeId} (h:w.heap[b]? =some (.cells #[v0,v1] t)):
 w.cell? ⟨b,0,none⟩=some v0∧w.cell? ⟨b,1,none⟩=some v1∧w.frozen? ⟨b,0,none⟩=false∧w.frozen? ⟨b,1,none⟩=false:=
 ⟨by rw [cell_of_row _ _ 0 _ _ _ h];rfl,by rw [cell_of_row _ _ 1 _ _ _ h];rfl,frozen_of_row w b 0 _ _ h,frozen_of_row w b 1 _ _ h⟩
theorem X2s {α:Type} {g:α→List Value} {w:World} {A:Option Addr} {n c:Nat} {l:List α} (h:RdE g 1 w (.slice A n c) l) (k:Nat) (x:α) (u:Value) (hx:l[k]? =some x) (hu:(g x)[0]? =some u):∃ b o,A=some ⟨b,o,none⟩∧b < w.heap.size∧w.cell? ⟨b,o+k,none⟩=some u:=by
 obtain ⟨b,o,hA,hb,hc⟩:=h.cells (by have:=(List.getElem?_eq_some_iff.1 hx).1;omega);refine ⟨b,o,hA,hb,?_⟩;have:=hc k x 0 u hx hu;rwa [show o+(k * 1+0)=o+k by omega] at this
theorem X7d (rs:List Ru) (vr:Value) (f:List Tk) (v:Value) (w:World) (hr:RdRu w vr rs) (hsm:Z7k rs) (h1:RdT w v f) (hl:X2 f≤1000000) (hfl:f.length≤100000):
 Calls Tryz.prog 31 #[vr,v] w (F7 54 Y6 2 w (H6 rs f)):=by
 obtain ⟨R,HF⟩:∃ R,yK (R=F7 54 Y6 2 w (H6 rs f)):=⟨_,rfl⟩;rw [←HF.o];obtain ⟨A,c,rfl,_,_⟩:=h1.shape;have Hm:=zW (Q8r f _ w h1 yY yY);have HK:=Q6g f;have iv:=X0p f;have hC:=zW (fun (u:World) (h:Below w.heap.size w u)=>Y3p rs vr (plS f) u (hr.below h yQ) hsm);have hH:=zW (fun (u:World) (h:Below w.heap.size w u)=>RdE.below h1 h yQ);have hW:=zW (Z1n rs f);have HI:=V2x rs (plS f);have hU:=zW (Z7u rs (plS f));have Hi:yK (H6 rs f=X1c (sqF f) 0 (Q5g f (bnF rs (plS f)))):=rfl;rw [Y8b] at hC;generalize bnF rs (plS f)=bn at hC hW HI hU Hi;generalize plS f=s at Hm hC HK HI hU;have ii:=Z8d f bn;have Hg:=zW (fun k (h:k < bn.length)=>V3e f bn k h);have Hh:=zW (Z8c f bn);generalize Q5g f bn=cs at hW Hi ii Hg Hh;obtain ⟨lv,Hb⟩:∃ lv,yK (lv=X2 f):=⟨_,rfl⟩;have iA:bn.length≤1000000:=yY;clear h1 hr;go_enter Tryz.func31,Tryz.ntmps31
 go_wp2_with (first
  | (go_at_call 60;refine Hm.o.mono ?_;rintro e w1 ⟨rfl,HH⟩;have hQ:=zW HH)
  | (go_at_call 59;refine (hC.o _ hQ.o).mono ?_;rintro e w2 ⟨v2,rfl,Hs,hL⟩;have hz:=zW (hQ.o.trans (hL.mono hQ.o.size));obtain ⟨Ab,cb,HT⟩:=Q0 Hs;rw [List.length_map] at HT;subst HT))
 have HE:=zW (OwnE.rd (f:=V6) (m:=1) (fun _=>rfl) Hs);have Hd:=hz.o.size;have HD:=zW (fun (o:Int) (u:World) (h:Below w2.heap.size w2 u)=>Y9p f _ o u (hH.o u (hz.o.trans (h.mono Hd))) hl yY);have Hz:=zW (fun (u:World) (h:Below w2.heap.size w2 u)=>Q0n f _ u (hH.o u (hz.o.trans (h.mono Hd))) yY yY);clear Hs hL HH hQ Hm hC;obtain ⟨wo,ho⟩:∃ wo,yK (wo=w2):=⟨w2,rfl⟩;go_loopg [5,7,23] bn.length (fun gk ov bv jv wr=>∃ (k:Nat) (q:List Int) (Ac:Option Addr) (cc:Nat),ov=.slice Ac q.length cc∧jv=.int .i64 k∧k≤bn.length∧yK (q=(cs.map fun (x:Nat)=>(x:Int)).take k)∧q.length≤k∧yK (OwnE 3 V6 1 wr w2.heap.size (.slice Ac q.length cc) q)∧yK (Below w2.heap.size w2 wr)∧bn.length - k≤gk)
 case atStart=>exact ⟨0,[],none,0,rfl,rfl,Nat.zero_le _,by (show _=_);rw [List.take_zero],by simp,OwnE.nil,Below.refl _ _,yY⟩
 case round=>
  clear ho;obtain ⟨k,q,Ac,cc,rfl,rfl,hk,HQ,HM,HO,HB,hgk⟩:=hrel;have hy:=HB.o.size;by_cases hkl:k < bn.length
  ·have iq:(k:Int) < (bn.length:Int):=yY;have ip:(0:Int)≤(k:Int):=yY;have hM:k < cs.length:=yY;have hN:(bn.map fun (x:Nat)=>(x:Int))[k]? =some (bn[k]:Int):=(by rw [List.getElem?_map,List.getElem?_eq_getElem hkl];rfl);obtain ⟨b,o,rfl,hb,q1⟩:=X2s HE.o k _ _ hN rfl;rw [←HB.o.cell (p:=⟨b,o+k,none⟩) hb] at q1;have he:=hU.o _ (List.getElem_mem hkl);have hY:=zW (HD.o (bn[k]:Int) wr HB.o);have HJ:cs[k]=J6 (G8 f) bn[k]:=by
    have h:=Hg.o k hkl;rw [List.getElem?_eq_getElem hM] at h;exact Option.some.inj h
   rw [Y9q f bn[k] yY,←HJ] at hY;clear HJ;have hp:yK (q++[(cs[k]:Int)]=(cs.map fun (x:Nat)=>(x:Int)).take (k+1)):=by
    show _=_;rw [List.take_succ_eq_append_getElem (by rw [List.length_map];exact hM),←HQ.o,List.getElem_map]
   generalize cs[k]=ck at hY hp;generalize bn[k]=bk at q1 hY;clear hN;have hL:b < wr.heap.size:=yY;go_wp2_with (first
    | (go_at_call 61;refine hY.o.mono ?_;rintro e w3 ⟨rfl,hc⟩;have hd:=zW (HB.o.trans (hc.mono hy));have hi:=zW (V4 HO.o hc yQ);have Hc:=hd.o.size;clear hc HB HO)
    | (at_builtin;go_must (refine Z5 rfl (.tmp 27) (.tmp 31) 22 3 rfl Tryz.underlying22 _ 1 8 X2g rfl yX w2.heap.size (.slice Ac q.length cc) q.length (q.flatMap V6) rfl (V4 hi.o ((Below.refl _ w3).alloc yQ _) yQ) ⟨w3.heap.size,0,none⟩ 1 (V6 ck) rfl rfl (F4 w3 (V6 ck) 3) (X2f ck) yY yX yV ?_);intro g9 cap w9 hown9 hbg9 hbel9 hgrow9))
   have hh:=hbel9 w2.heap.size w3 yQ ((Below.refl w2.heap.size w3).alloc Hc (.cells (V6 ck).toArray 3));have hR:=zW (hd.o.trans hh);have hF:yK (OwnE 3 V6 1 w9 w2.heap.size (.slice (some ⟨g9,0,none⟩) (q.length+1) cap) (q++[(ck:Int)])):=OwnE.snoc hown9;clear hown9 hbel9 hgrow9 hh;go_wp2_with fail
   go_roundg (bn.length - (k+1))
   case measure=>omega
   case rel=>exact ⟨k+1,q++[(ck:Int)],some ⟨g9,0,none⟩,cap,by (show Value.slice _ _ _=Value.slice _ _ _);rw [List.length_append];rfl,rfl,yY,hp.o,by rw [List.length_append];show q.length+1≤k+1;omega,by (show OwnE _ _ _ _ _ _ _);rw [List.length_append];exact hF.o,hR.o,yY⟩
  ·obtain rfl:k=bn.length:=yY;have hp:yK (q++[(lv:Int)]=(cs.map fun (x:Nat)=>(x:Int))):=by
    show _=_;have h:=List.take_succ_eq_append_getElem (l:=cs.map fun (x:Nat)=>(x:Int)) (i:=bn.length) (by rw [List.length_map];omega);have ih:cs[bn.length]'yY=X2 f:=by
     have h:=Hh.o;rw [List.getElem?_eq_getElem yY] at h;exact Option.some.inj h
    rw [List.take_of_length_le (by rw [List.length_map];omega),←HQ.o,List.getElem_map,ih,←Hb.o] at h;exact h.symm
   have HL:q.length+1=cs.length:=by
    have:=congrArg List.length hp.o;rw [List.length_append,List.length_map] at this;exact this
   have Hn:=zW HL;have Hy:=zW (Hz.o wr HB.o);rw [←Hb.o] at Hy;have ir:lv≤1000000:=(by have:=Hb.o;omega);clear HL;go_upto_region 8 with (first
    | (go_at_call 62;refine Hy.o.mono ?_;rintro e w3 ⟨rfl,hc⟩;have hd:=zW (HB.o.trans (hc.mono hy));have hi:=zW (V4 HO.o hc yQ);have Hc:=hd.o.size;clear hc HB HO)
    | (at_builtin;go_must (refine Z5 rfl (.tmp 34) (.tmp 37) 22 3 rfl Tryz.underlying22 _ 1 8 X2g rfl yX w2.heap.size (.slice Ac q.length cc) q.length (q.flatMap V6) rfl (V4 hi.o ((Below.refl _ w3).alloc yQ _) yQ) ⟨w3.heap.size,0,none⟩ 1 (V6 lv) rfl rfl (F4 w3 (V6 lv) 3) (X2f lv) yY yX yV ?_);intro g9 cap w9 hown9 hbg9 hbel9 hgrow9))
   have hh:=hbel9 w2.heap.size w3 yQ ((Below.refl w2.heap.size w3).alloc Hc (.cells (V6 lv).toArray 3));have hR:=zW (hd.o.trans hh);have hF:yK (OwnE 3 V6 1 w9 w2.heap.size (.slice (some ⟨g9,0,none⟩) (q.length+1) cap) (q++[(lv:Int)])):=OwnE.snoc hown9;rw [hp.o,Hn.o] at hF;rw [Hn.o];have Ho:=zW (OwnE.rd (f:=V6) (m:=1) (fun _=>rfl) hF.o);have hD:=zW (hz.o.trans (hR.o.mono Hd));clear hown9 hbel9 hgrow9 hh hF hR hd hi Hc HQ hp Hn HE HD Hz HM hgk hy hU Hg Hh HK iv hbg9 Hd hz;have ib:=Ho;have hG:=zW (fun (u:World) (h:Below w9.heap.size w9 u)=>Y8a f _ u (hH.o u (hD.o.trans (h.mono hD.o.size))) yY yY);go_wp2_with (go_at_call 63;refine (hG.o _ (Below.refl _ _)).mono ?_;rintro e w10 ⟨v10,rfl,ho10,hb10⟩)
   have hn:=Y2t f;have ic:yK (spF f=(sqF f).map (·.2)):=rfl;have hI:=zW (OwnE.rd Z3y ho10);obtain ⟨As,cs10,Hu⟩:=Q0 ho10;subst Hu;have hV:=zW (hD.o.trans (hb10.mono hD.o.size));have Hp:=zW (Ho.o.below hb10 yQ);have HG:=zW (fun (p q:Nat) (u:World) (h:Below w10.heap.size w10 u) (iw:p≤q) (hq:q≤X2 f)=>Q8s f _ p q u (hH.o u (hV.o.trans (h.mono hV.o.size))) yY yY iw hq);have HY:=zW (fun p q=>X4t f 0 p q);have HC:yK (∀ p q,X2 (slI f 0 p q)≤X2 f):=fun p q=>by
    have h1:=Q0t (slI f 0 p q);rw [Z2v,List.length_drop,List.length_take] at h1;have h2:=Q0t f;omega
   have Hq:yK (∀ p t,t≤X2 f→(plI (slI f 0 p t)).any (fun c=>!Q2j c)=true→∃ x y,sgF (sqF f) p t=[(x,y)]∧SegAt (spF f) p t x y):=fun p t ht ha=>V9r f p t ht ha;clear ho10 hb10 hG Ho hD hH;clear ic;generalize spF f=S at hI hn Hq;generalize X2 f=n at hl hn hW HG HC Hb Hq;have ie:=zW hn;clear hn;have hO:=hV.o.size;obtain ⟨wo,ho⟩:∃ wo,yK (wo=w10):=⟨w10,rfl⟩;go_loopg [9,10,12,13,14,15,16,17,43] cs.length (fun gk ov fv tv pv sv lv hv rv jv wr=>∃ (k p:Nat) (q:List (Nat×Nat)) (Ac:Option Addr) (cc:Nat),ov=.slice Ac q.length cc∧fv=.int .i64 p∧jv=.int .i64 k∧k≤cs.length∧yK (p=(0::cs).getD k 0)∧yK (q=X1c (sqF f) 0 (cs.take k))∧q.length≤k∧yK (OwnE 54 Y6 2 wr w10.heap.size (.slice Ac q.length cc) q)∧yK (Below w10.heap.size w10 wr)∧cs.length - k≤gk)
   case atStart=>exact ⟨0,0,[],none,0,rfl,rfl,rfl,Nat.zero_le _,rfl,by (show _=_);rw [List.take_zero];rfl,by simp,OwnE.nil,Below.refl _ _,yY⟩
   case round=>
    clear ho;obtain ⟨k,p,q,Ac,cc,rfl,rfl,rfl,hk,HP,HQ,HM,HO,HB,hgk⟩:=hrel;have hy:=HB.o.size;by_cases hkl:k < cs.length
    ·have iq:(k:Int) < (cs.length:Int):=yY;have ip:(0:Int)≤(k:Int):=yY;obtain ⟨Ht,iy⟩:=AscF.at_ k hkl hW.o;rw [←HP.o] at Ht;have hs:=zW (Y0k (sqF f) cs 0 k hkl);rw [←HP.o,←HQ.o] at hs;have Hj:yK ((0::cs).getD (k+1) 0=cs[k]):=by
      show _=_;rw [List.getD_cons_succ,List.getD_eq_getElem?_getD,List.getElem?_eq_getElem hkl];rfl
     obtain ⟨b,o,hA,hb,q1⟩:=X2s Hp.o k _ _ (show (cs.map fun (x:Nat)=>(x:Int))[k]? =some (cs[k]:Int) by rw [List.getElem?_map,List.getElem?_eq_getElem hkl];rfl) rfl;injection hA with hA;injection hA with hA1 hA2 _;subst hA1 hA2;rw [←HB.o.cell (p:=⟨g9,0+k,none⟩) hb,Nat.zero_add] at q1;have hL:g9 < wr.heap.size:=yY;generalize cs[k]=t at Ht iy hs Hj q1;have iH:t≤1000000:=yY;have Ha:=zW (HG.o p t wr HB.o Ht yY);have ij:=HY.o p t;have im:=HC.o p t;have hJ:=zW (Hq.o p t yY);have hE:=zW (V9s f p t);generalize slI f 0 p t=g at Ha ij im hJ hE;have hX:=zW (fun (v:Value) (u:World) (h:RdT u v g)=>Q8r g v u h yY yY);have il:=Q6g g;have ik:=X0p g;have Hx:yK ((plS g).data.toList=plI g):=(by show (plI g).toArray.toList=_;simp);have hu:=zW (fun (u:World)=>V1y (plS g) u (by unfold maxLen;omega));rw [Hx.o] at hu;generalize plI g=gl at hu hJ hE;generalize plS g=gs at hX hu;clear il ik Hx;by_cases ha:gl.any (fun c=>!Q2j c)=true
     ·obtain ⟨x,y,HS,hK⟩:=hJ.o ha;rw [HS] at hs;have hP:=zW hK;have ix:=hK.px;have iI:=hK.xy;have iK:=hK.yq;clear HS hK hJ hE;go_upto_region 17 with (first
       | (go_at_call 47;refine Ha.o.mono ?_;rintro e w3 ⟨v3,rfl,hx,hc⟩;obtain ⟨A3,c3,Hv⟩:=Q0 hx;subst Hv;have hd:=zW (HB.o.trans (hc.mono hy));have hZ:=zW (OwnE.rd Q5 hx);have hi:=zW (V4 HO.o hc yQ))
       | (go_at_call 60;refine (hX.o _ _ hZ.o).mono ?_;rintro e w4 ⟨rfl,hw⟩;have hB:=zW (hd.o.trans (hw.mono hd.o.size));have Hl:=zW (V4 hi.o hw yQ))
       | (go_at_call 64;refine (hu.o _).mono ?_;rintro e w5 ⟨x9,y9,hT,rfl,rfl⟩;have HU:=(X1m hT).2 ha;have Hw:(x9:Int) < (y9:Int):=yY))
      have HX:yK ((w4.alloc (.cells #[.int .i64 (p:Int),.int .i64 (t:Int)] 54)).heap[w4.heap.size]? =some (.cells #[.int .i64 (p:Int),.int .i64 (t:Int)] 54)):=heap_alloc_new w4 _;have HA:=zW ((Below.refl w4.heap.size w4).alloc yQ (.cells #[.int .i64 (p:Int),.int .i64 (t:Int)] 54));have HV:=hB.o.size;clear hc hx hw hZ hd hi HO HB Ha hX hu hT HU q1 hb hL;go_wp2_with fail
      generalize w4.alloc (.cells #[.int .i64 (p:Int),.int .i64 (t:Int)] 54)=w5 at HX HA ⊢;obtain ⟨r,hr⟩:∃ r,yK (r=w4.heap.size):=⟨_,rfl⟩;rw [←hr.o] at HX ⊢;have HN:w4.heap.size≤r:=Nat.le_of_eq hr.o.symm;obtain ⟨wo,ho⟩:∃ wo,yK (wo=w5):=⟨w5,rfl⟩;go_loopg [68] (x - p) (fun gk tv wr=>∃ j:Nat,p≤j∧j≤x∧yK (wr.heap[r]? =some (.cells #[.int .i64 (j:Int),.int .i64 (t:Int)] 54))∧yK (Below w4.heap.size w4 wr)∧x - j≤gk)
      case atStart=>exact ⟨p,yQ,ix,HX.o,HA.o,yY⟩
      case round=>
       clear HX HA ho;obtain ⟨j,iu,iE,HX,HA,iB⟩:=hrel;obtain ⟨x0,x1,y0,y1⟩:=V8u HX.o;have HR:r < wr.heap.size:=(Array.getElem?_eq_some_iff.1 HX.o).1;have hf:=hB.o.trans (HA.o.mono HV);have iD:(0:Int)≤(j:Int):=yY;by_cases hj:j < x
       ·have hS:=hP.o.lead j iu hj;have io:(j:Int) < (S.length:Int):=(by have:=(List.getElem?_eq_some_iff.1 hS).1;omega);obtain ⟨bs,os,hg,he,q3⟩:=X2s hI.o j true _ hS rfl;subst hg;rw [←hf.cell (p:=⟨bs,os+j,none⟩) he] at q3;clear hS hf he;go_wp2_with fail
        have Hr:yK ((wr.setCell ⟨r,0,none⟩ (.int .i64 ((j:Int)+1))).heap[r]? =some (.cells #[.int .i64 ((j+1:Nat):Int),.int .i64 (t:Int)] 54)):=R3 HX.o 0 _;have He:=zW (HA.o.setCell (p:=⟨r,0,none⟩) HN (.int .i64 ((j:Int)+1)));go_roundg (x - (j+1))
        case measure=>omega
        case rel=>exact ⟨j+1,yY,yY,Hr.o,He.o,yY⟩
       ·obtain rfl:j=x:=yY;have hS:=hP.o.atx;have io:(j:Int) < (S.length:Int):=(by have:=(List.getElem?_eq_some_iff.1 hS).1;omega);obtain ⟨bs,os,hg,he,q3⟩:=X2s hI.o j false _ hS rfl;subst hg;rw [←hf.cell (p:=⟨bs,os+j,none⟩) he] at q3;clear hS hf he;go_wp2_with fail
        clear q3 x0 x1 y0 y1 HR;obtain ⟨wo,ho⟩:∃ wo,yK (wo=wr):=⟨wr,rfl⟩;go_loopg [77] (t - y) (fun gk tv wr=>∃ m:Nat,y≤m+1∧m+1≤t∧yK (wr.heap[r]? =some (.cells #[.int .i64 (j:Int),.int .i64 ((m:Int)+1)] 54))∧yK (Below w4.heap.size w4 wr)∧m+1 - y≤gk)
        case atStart=>exact ⟨t - 1,yY,yY,by (show _=_);rw [show ((t - 1:Nat):Int)+1=(t:Int) by omega];exact HX.o,HA.o,yY⟩
        case round=>
         clear HX HA ho;obtain ⟨m,iJ,iG,HX,HA,iC⟩:=hrel;obtain ⟨x0,x1,y0,y1⟩:=V8u HX.o;have HR:r < wr.heap.size:=(Array.getElem?_eq_some_iff.1 HX.o).1;have hf:=hB.o.trans (HA.o.mono HV);have iF:(0:Int)≤(m:Int):=yY;by_cases hm:y≤m
         ·have hS:=hP.o.tail m hm yY;have it:(m:Int) < (S.length:Int):=(by have:=(List.getElem?_eq_some_iff.1 hS).1;omega);obtain ⟨bs,os,hg,he,q3⟩:=X2s hI.o m true _ hS rfl;try (injection hg with hg;injection hg with h1 h2 _;subst h1 h2)
          rw [←hf.cell (p:=⟨_,_+m,none⟩) he] at q3;clear hS hf he;go_wp2_with fail
          have Hr : yK ((wr.setCell ⟨r, 1, none⟩ (.int .i64 (m : Int))).heap[r]? = some (.cells #[.int .i64 (j : Int), .int .i64 (((m - 1 : Nat) : Int) + 1)] 54)) := by
                 show _=_;rw [show ((m - 1:Nat):Int)+1=(m:Int) by omega];exact R3 HX.o 1 _
          have He:=zW (HA.o.setCell (p:=⟨r,1,none⟩) HN (.int .i64 (m:Int)));go_roundg (m - y)
          case measure=>omega
          case rel=>exact ⟨m - 1,yY,yY,Hr.o,He.o,yY⟩
         ·obtain rfl:y=m+1:=yY;have hS:=hP.o.aty;rw [Nat.add_sub_cancel] at hS;have it:(m:Int) < (S.length:Int):=(by have:=(List.getElem?_eq_some_iff.1 hS).1;omega);obtain ⟨bs,os,hg,he,q3⟩:=X2s hI.o m false _ hS rfl;try (injection hg with hg;injection hg with h1 h2 _;subst h1 h2)
          rw [←hf.cell (p:=⟨_,_+m,none⟩) he] at q3;have ia:=zW (World.ownsRow.alloc (V4 Hl.o HA.o yQ) (.cells (Y6 (j,m+1)).toArray 54));have Hf:=zW hf;have iz:=hf.size;clear hS hf he;go_wp2_with (at_builtin;go_must (refine Z5 rfl (.tmp 85) (.tmp 87) 72 54 rfl Tryz.underlying72 _ 2 16 Q4v rfl yX w10.heap.size (.slice Ac q.length cc) q.length (q.flatMap Y6) rfl (by exact ia.o) ⟨wr.heap.size,0,none⟩ 1 (Y6 (j,m+1)) rfl rfl (by exact F4 _ _ _) (Z6b _) yY yX yV ?_);intro g8 cap8 w8 hown8 hbg8 hbel8 hgr8)
          have HZ : yK (OwnE 54 Y6 2 w8 w10.heap.size (.slice (some ⟨g8, 0, none⟩) (q.length + 1) cap8) (X1c (sqF f) 0 (cs.take (k + 1)))) := by
                 show OwnE _ _ _ _ _ _ _;rw [hs.o];exact OwnE.snoc (f:=Y6) hown8
          have HW:=zW (hbel8 _ _ yQ (Hf.o.alloc iz (.cells (Y6 (j,m+1)).toArray 54)));have Hk : yK ((X1c (sqF f) 0 (cs.take (k + 1))).length = q.length + 1) := by
                 show _=_;rw [hs.o,List.length_append];rfl
          clear hown8 hbel8 hgr8 q3 x0 x1 y0 y1;go_wp2_with fail
          go_roundg (cs.length - (k+1))
          case measure=>omega
          case rel=>exact ⟨k+1,t,_,some ⟨g8,0,none⟩,cap8,by rw [Hk.o],rfl,rfl,yY,Hj.o.symm,rfl,by rw [Hk.o];omega,by (show OwnE _ _ _ _ _ _ _);rw [Hk.o];exact HZ.o,HW.o,yY⟩
     ·have ig:yK (X1c (sqF f) 0 (cs.take (k+1))=q):=by
       show _=_;rw [hs.o,hE.o ha,List.append_nil]
      clear hJ hE;go_wp2_with (first
       | (go_at_call 47;refine Ha.o.mono ?_;rintro e w3 ⟨v3,rfl,hx,hc⟩;obtain ⟨A3,c3,Hv⟩:=Q0 hx;subst Hv;have hd:=zW (HB.o.trans (hc.mono hy));have hZ:=zW (OwnE.rd Q5 hx);have hi:=zW (V4 HO.o hc yQ))
       | (go_at_call 60;refine (hX.o _ _ hZ.o).mono ?_;rintro e w4 ⟨rfl,hw⟩;have hB:=zW (hd.o.trans (hw.mono hd.o.size));have Hl:=zW (V4 hi.o hw yQ))
       | (go_at_call 64;refine (hu.o _).mono ?_;rintro e w5 ⟨x9,y9,hT,rfl,rfl⟩;have HU:¬ x9 < y9:=fun h=>ha ((X1m hT).1 h);have Hw:¬ (x9:Int) < (y9:Int):=yY))
      go_roundg (cs.length - (k+1))
      case measure=>omega
      case rel=>exact ⟨k+1,t,q,Ac,cc,rfl,rfl,rfl,yY,Hj.o.symm,ig.o.symm,yY,Hl.o,hB.o,yY⟩
    ·obtain rfl:k=cs.length:=yY;rw [List.take_length,←Hi.o] at HQ;go_wp2_with fail
     rw [HF.o,←HQ.o];exact ⟨_,rfl,Y7 HO.o hO,hV.o.trans (HB.o.mono hO)⟩
def Y0y:Nat→List (Nat×Nat)→Nat→Prop
 | _,[],_=>True
 | at_,r::rl,n=>at_≤r.1∧r.1≤r.2∧r.2≤n∧Y0y r.2 rl n
theorem X7h {w:World} {A:Option Addr} {n c:Nat} {l:List (Nat×Nat)} (h:RdE Y6 2 w (.slice A n c) l) (k:Nat) (hk:k < l.length):∃ b o,A=some ⟨b,o,none⟩∧b < w.heap.size∧w.cell? ⟨b,o+k * 2,none⟩=some (.int .i64 l[k].1)∧w.cell? ⟨b,o+k * 2+1,none⟩=some (.int .i64 l[k].2):=by
 obtain ⟨b,o,hA,hb,hx⟩:=RdE.cells h yY;exact ⟨b,o,hA,hb,hx k _ 0 _ (List.getElem?_eq_getElem hk) rfl,hx k _ 1 _ (List.getElem?_eq_getElem hk) rfl⟩
theorem V2p (rl:List (Nat×Nat)) (n:Nat) (v:Value) (w:World) (h:RdE Y6 2 w v rl) (hl:rl.length≤100000) (hn:n≤1000000) (ha:Y0y 0 rl n):
 Calls Tryz.prog 66 #[v,.int .i64 n] w (fun e w'=>e=.returned (.bool true)∧Below w.heap.size w w'):=by
 obtain ⟨R,hc⟩:∃ R:Ending→World→Prop,yK (R=fun e w'=>e=.returned (.bool true)∧Below w.heap.size w w'):=⟨_,rfl⟩;rw [←hc.o];obtain ⟨A,c,rfl,_,_⟩:=h.shape;have HF:=zW h;have HA:=zW ha;clear h ha;go_enter Tryz.func66,Tryz.ntmps66
 go_wp2_with fail
 go_loopg [5,10] rl.length (fun gk av iv wr=>∃ k a:Nat,av=.int .i64 a∧iv=.int .i64 k∧k≤rl.length∧a≤1000000∧yK (Y0y a (rl.drop k) n)∧yK (Below w.heap.size w wr)∧rl.length - k≤gk)
 case atStart=>exact ⟨0,0,rfl,rfl,Nat.zero_le _,Nat.zero_le _,HA.o,Below.refl _ _,yQ⟩
 case round=>
  obtain ⟨k,a,rfl,rfl,hk,hf,HS,HB,hgk⟩:=hrel;by_cases hlt:k < rl.length
  ·obtain ⟨b,o,rfl,hb,c0,c1⟩:=X7h (HF.o.below HB.o yQ) k hlt;have hs:=HS.o;rw [List.drop_eq_getElem_cons hlt] at hs;generalize rl[k]=x at *;obtain ⟨x1,x2⟩:=x;obtain ⟨s1,s2,s3,s4⟩:=hs;simp only at c0 c1 s1 s2 s3 s4;have he:=zW s4;have t1:¬ ((x1:Int) < (a:Int)):=yY;have t2:¬ ((x2:Int) < (x1:Int)):=yY;have t3:¬ ((n:Int) < (x2:Int)):=yY;have hd:=zW (HB.o.alloc HB.o.size (.cells #[.int .i64 x1,.int .i64 x2] 54));clear s4;go_wp2_with fail
   go_roundg (rl.length - (k+1))
   case measure=>omega
   case rel=>exact ⟨k+1,x2,rfl,rfl,hlt,yY,he.o,hd.o,yQ⟩
  ·obtain rfl:k=rl.length:=yY;go_wp2_with fail
   first | go_ret | skip
   rw [hc.o];exact ⟨rfl,HB.o⟩
theorem Q3d (a b:List Tk):Q9 (Q9 a++b)=Q9 (Y2 a++Y2 b):=by rw [X8p,Q7e]
theorem L9 (a:List Tk):X2 (Q9 a)=X2 a:=by rw [←D6,Q7e,D6]
theorem Q5z (a:List Tk):(Q9 a).length≤X2 a:=by
 have:=Q8u (Q9 a) (S8 _ (C9 a));rwa [L9] at this
theorem X2m (a b:List Tk):X2 (a++b)=X2 a+X2 b:=by rw [←D6,I5,List.length_append,D6,D6]
theorem Q0r (a:List Tk) (h:Y2 a=a):X2 a=a.length:=by rw [←D6,h]
theorem Z8v (f:List Tk) (l:List Tk) (h:∀ y∈l,y∈Y2 f):Y2 l=l:=Q7d l fun y hy=>C6 f y (h y hy)
theorem V0z (u:List Tk) (a:Nat) (tg:List (List Tk)):Q2m u a [] tg=u.drop a:=by cases tg<;>rfl
theorem V7m {u:List Tk} {p q:Nat} {y:Tk} (h:y∈(u.take p).drop q):y∈u:=List.mem_of_mem_take (List.mem_of_mem_drop h)
theorem Y2m (f:List Tk) (rl:List (Nat×Nat)) (tg:List (List Tk)) (v vr vt:Value) (w:World) (h1:RdT w v f) (h2:RdE Y6 2 w vr rl) (h3:RdTT w vt tg) (hl:rl.length=tg.length) (hlr:rl.length≤100000) (hfl:f.length≤100000) (hlf:X2 f≤1000000)
 (ha:Y0y 0 rl (X2 f)) (htot:(Q2m (Y2 f) 0 rl tg).length≤100000) (htk:∀ t∈tg,Normal t):
 Calls Tryz.prog 71 #[v,vr,vt] w (F7 31 tkC 3 w (Q9 (Q2m (Y2 f) 0 rl tg))):=by
 obtain ⟨R,Hd⟩:∃ R,yK (R=F7 31 tkC 3 w (Q9 (Q2m (Y2 f) 0 rl tg))):=⟨_,rfl⟩;rw [←Hd.o];obtain ⟨A,c,rfl,_,_⟩:=h1.shape;obtain ⟨A2,c2,rfl,_,_⟩:=h2.shape;obtain ⟨A3,tc,rfl,He⟩:=h3;have H3:yK (RdTT w (.slice A3 tg.length tc) tg):=⟨A3,tc,rfl,He⟩;have H1:=zW h1;have H2:=zW h2;have HA:=zW ha;have hm:=zW htot;have hE:=zW htk;have Ha:=zW hl;have hL:=zW hlf;have CS:=zW (fun (p q:Nat) (w':World) (h:RdT w' (.slice A f.length c) f) (Hv:p≤q) (hq:q≤X2 f)=>Q8s f _ p q w' h yY yY Hv hq);have CL:=zW (fun (w':World) (h:RdT w' (.slice A f.length c) f)=>Q0n f _ w' h yY yY);clear h1 h2 He ha htot htk hl hlf;go_enter Tryz.func71,Tryz.ntmps71
 go_wp2_with fail
 go_loopg [7,8,17] rl.length (fun gk ov av iv wr=>∃ (k a:Nat) (E:List Tk),av=.int .i64 a∧iv=.int .i64 k∧k≤rl.length∧a≤X2 f∧yK (Y0y a (rl.drop k) (X2 f))∧yK (Y2 E=E)∧yK (E++Q2m (Y2 f) a (rl.drop k) (tg.drop k)=Q2m (Y2 f) 0 rl tg)∧yK (OwnT 31 wr w.heap.size ov (Q9 E))∧yK (Below w.heap.size w wr)∧rl.length - k≤gk)
 case atStart=>exact ⟨0,0,[],rfl,rfl,Nat.zero_le _,Nat.zero_le _,HA.o,rfl,rfl,OwnE.nil,Below.refl _ _,yQ⟩
 case round=>
  obtain ⟨k,a,E,rfl,rfl,hk,Hg,HS,hD,HE,HO,HB,hgk⟩:=hrel;have Hn:E.length≤100000:=by
   have:=congrArg List.length HE.o;rw [List.length_append] at this;have:=hm.o;omega
  have Hj:X2 E=E.length:=Q0r E hD.o;obtain ⟨Ao,co,rfl⟩:=Q0 HO.o;have Hc:=zW (OwnE.rd Q5 HO.o);have Hk:=Q5z E;by_cases hlt:k < rl.length
  ·obtain ⟨b,o,rfl,hb,c0,c1⟩:=X7h (H2.o.below HB.o yQ) k hlt;have hn:k < tg.length:=(by rw [←Ha.o];exact hlt);obtain ⟨tb,tof,At,ct,Ht,hB,t00,hA⟩:=RdTT.at_ H3.o k hn;subst Ht;have hs:=HS.o;have he:=HE.o;rw [List.drop_eq_getElem_cons hlt] at hs he;rw [List.drop_eq_getElem_cons hn,Q2m] at he;have hC:=hE.o _ (List.getElem_mem hn);generalize rl[k]=x at *;generalize tg[k]=tk at *;obtain ⟨x1,x2⟩:=x;obtain ⟨s1,s2,s3,s4⟩:=hs;simp only at c0 c1 s1 s2 s3 s4 he;have Hs:=zW s4;have Hy:x1≤X2 f:=Nat.le_trans s2 s3;have Hz:(x1:Int)≤1000000:=(by have:=hL.o;omega);have HC:(x2:Int)≤1000000:=(by have:=hL.o;omega);obtain ⟨pc,hr⟩:∃ pc,yK (slI f 0 a x1=pc):=⟨_,rfl⟩;have ht:Y2 pc=((Y2 f).take x1).drop a:=(by rw [←hr.o,X0d,Nat.sub_zero,Nat.sub_zero]);have hV:pc.length≤X2 pc:=(by rw [←hr.o];exact Q8u _ (Z0p a x1 f 0));have hU:X2 pc=(((Y2 f).take x1).drop a).length:=(by rw [←D6,ht]);have hz:=congrArg List.length he;simp only [List.length_append] at hz;have hX:=hm.o;have Hx:X2 tk=(Y2 tk).length:=(D6 tk).symm;have hY:=Q8u tk (S8 _ hC);obtain ⟨E1,hw⟩:∃ E1,yK (E1=E++((Y2 f).take x1).drop a):=⟨_,rfl⟩;obtain ⟨E2,hF⟩:∃ E2,yK (E2=E1++Y2 tk):=⟨_,rfl⟩;have hf:Y2 E1=E1:=(by rw [hw.o,I5,hD.o,Z8v f _ fun y hy=>V7m hy]);have hK:yK (Y2 E2=E2):=(by show _=_;rw [hF.o,I5,hf,Q7d (Y2 tk) (C6 tk)]);have hx:Q9 (Q9 E++pc)=Q9 E1:=(by rw [Q3d,hD.o,ht,hw.o]);have Hf:Q9 (Q9 E1++tk)=Q9 E2:=(by rw [Q3d,hf,hF.o]);have Hu:X2 E1=E.length+(((Y2 f).take x1).drop a).length:=(by rw [Q0r E1 hf,hw.o,List.length_append]);have hS:=Q5z E1;have Hq:yK (E2++Q2m (Y2 f) x2 (rl.drop (k+1)) (tg.drop (k+1))=Q2m (Y2 f) 0 rl tg):=by
    show _=_;rw [←he,hF.o,hw.o];simp
   have hi:=zW (fun (W:World) (ha:RdT W (.slice Ao (Q9 E).length co) (Q9 E)) (Ap:Option Addr) (cp:Nat) (hb:RdT W (.slice Ap pc.length cp) pc)=>Q8p (Q9 E) pc Ao Ap co cp W ha hb yY (by rw [X2m,L9];omega));have hJ:=zW (fun (A5:Option Addr) (c5:Nat) (W:World) (ha:RdT W (.slice A5 (Q9 E1).length c5) (Q9 E1)) (hb:RdT W (.slice At tk.length ct) tk)=>Q8p (Q9 E1) tk A5 At c5 ct W ha hb yY (by rw [X2m,L9];omega));rw [hx] at hi;rw [Hf] at hJ;have hI:=zW (HB.o.alloc HB.o.size (.cells #[.int .i64 x1,.int .i64 x2] 54));have HD:(k:Int) < (tg.length:Int):=yY;have CS1:=zW (fun (w':World) (h:RdT w' (.slice A f.length c) f)=>CS.o a x1 w' h s1 Hy);rw [hr.o] at CS1;have Hl:=zW (fun (W:World) (hW:Below w.heap.size w W)=>(hW.cell (p:=⟨tb,tof+k,none⟩) hB).trans t00);have Hh:=(Below.refl wr.heap.size wr).alloc yQ (.cells #[.int .i64 x1,.int .i64 x2] 54);have hP:=zW (RdE.below Hc.o Hh yQ);have hv:=zW (fun (W:World) (hW:Below w.heap.size w W)=>RdE.below hA hW yQ);clear he s4 ht hV hU hz hX Hx hY hf hx Hf Hu hS hC t00 hA hw hF Hk Hj Hn Hh;go_wp2_with (go_at_call 47;refine (CS1.o _ (by exact RdE.below H1.o hI.o yQ)).mono ?_;rintro e w1 ⟨vp,rfl,hp,hd⟩;obtain ⟨Ap,cp,rfl⟩:=Q0 hp;have hN:=zW (OwnE.rd Q5 hp);have Hp:=zW (hI.o.trans (hd.mono hI.o.size));have hj:=zW (RdE.below hP.o hd yQ);have r0:w1.cell? ⟨wr.heap.size,0,none⟩=some (.int .i64 x1):=(hd.cell yW).trans yU;have r1:w1.cell? ⟨wr.heap.size,1,none⟩=some (.int .i64 x2):=(hd.cell yW).trans yU;have Hw:wr.heap.size < w1.heap.size:=Nat.lt_of_lt_of_le yW hd.size;clear hp hd)
   refine zqR (l0:=#[false,false,false,false,false,false,false,false,false]) 9 rfl ?_;have hh:yK (Below w.heap.size w w1.drew):=Hp.o.drew;have hu:=zW (hi.o w1.drew hj.o Ap cp hN.o);have hE:=zW (hv.o w1.drew hh.o);have t0:=Hl.o w1.drew hh.o;have Hm:tb < w1.drew.heap.size:=Nat.lt_of_lt_of_le hB hh.o.size;have R0:yK (∀ W,Below w1.drew.heap.size w1.drew W→W.cell? ⟨wr.heap.size,1,none⟩=some (.int .i64 x2)):=fun W hW=>(hW.cell (p:=⟨wr.heap.size,1,none⟩) Hw).trans r1;clear hi Hl hv;generalize w1.drew=W0 at *;refine zqM 0 30 (.slice Ao (Q9 E).length co) rfl ?_;refine zqM 1 31 (.slice Ap pc.length cp) rfl ?_;refine zqM 3 33 (.slice (some ⟨tb,tof,none⟩) tg.length tc) rfl ?_;refine zqM 4 34 (.int .i64 (k:Int)) rfl ?_;refine zqI 5 35 (.pointer (some ⟨tb,tof+k,none⟩)) rfl rfl (.slice (some ⟨tb,tof,none⟩) tg.length tc) (.int .i64 (k:Int)) ?_;simp only [Act.put,zZ,zY,zX];refine zqt 2 6 rfl rfl ?_ ?_;refine Q2n (.slice Ao (Q9 E).length co) (.slice Ap pc.length cp) rfl Tryz.func113 (hu.o) ?_;rintro e W1 ⟨v,rfl,ho,hb⟩;obtain ⟨A5,c5,rfl⟩:=Q0 ho;have hM:=zW (OwnE.rd Q5 ho);have hg:=zW (hh.o.trans (hb.mono hh.o.size));have hQ:=zW (RdE.below hE.o hb yQ);have t1:=(hb.cell (p:=⟨tb,tof+k,none⟩) Hm).trans t0;have hc:=zW hb;clear ho hb;refine ⟨.slice A5 (Q9 E1).length c5,rfl,?_⟩;simp only [Act.put,zZ,zY,zX];refine zqo 6 rfl ?_;refine zqL (.slice At tk.length ct) rfl (.pointer (some ⟨tb,tof+k,none⟩)) (Q7k t1) ?_;simp only [Act.put,zZ,zY,zX];refine zqo 7 rfl ?_;refine Q2n (.slice A5 (Q9 E1).length c5) (.slice At tk.length ct) rfl Tryz.func113 (hJ.o A5 c5 W1 hM.o hQ.o) ?_;rintro e W2 ⟨v,rfl,ho,hb⟩;obtain ⟨A6,c6,rfl⟩:=Q0 ho;have Hb:=zW (Y7 ho hg.o.size);have hZ:=zW (hg.o.trans (hb.mono hg.o.size));have y1:=R0.o W2 (hc.o.trans (hb.mono hc.o.size));clear ho hb;refine ⟨.slice A6 (Q9 E2).length c6,rfl,?_⟩;refine zqG 8 7 (.slice A6 (Q9 E2).length c6) rfl ?_;refine wpAny_done yZ ?_ _;simp only [Act.put,zZ,zY,zX];rotate_left 1
   refine zqL (.slice At tk.length ct) rfl (.pointer (some ⟨tb,tof+k,none⟩)) (Q7k t0) ?_;simp only [Act.put,zZ,zY,zX];refine zqo 2 rfl ?_;refine Q2n (.slice Ao (Q9 E).length co) (.slice Ap pc.length cp) rfl Tryz.func113 (hu.o) ?_;rintro e W1 ⟨v,rfl,ho,hb⟩;obtain ⟨A5,c5,rfl⟩:=Q0 ho;have hM:=zW (OwnE.rd Q5 ho);have hg:=zW (hh.o.trans (hb.mono hh.o.size));have hQ:=zW (RdE.below hE.o hb yQ);have t1:=(hb.cell (p:=⟨tb,tof+k,none⟩) Hm).trans t0;have hc:=zW hb;clear ho hb;refine ⟨.slice A5 (Q9 E1).length c5,rfl,?_⟩;simp only [Act.put,zZ,zY,zX];refine zqo 7 rfl ?_;refine Q2n (.slice A5 (Q9 E1).length c5) (.slice At tk.length ct) rfl Tryz.func113 (hJ.o A5 c5 W1 hM.o hQ.o) ?_;rintro e W2 ⟨v,rfl,ho,hb⟩;obtain ⟨A6,c6,rfl⟩:=Q0 ho;have Hb:=zW (Y7 ho hg.o.size);have hZ:=zW (hg.o.trans (hb.mono hg.o.size));have y1:=R0.o W2 (hc.o.trans (hb.mono hc.o.size));clear ho hb;refine ⟨.slice A6 (Q9 E2).length c6,rfl,?_⟩;refine zqG 8 7 (.slice A6 (Q9 E2).length c6) rfl ?_;refine wpAny_done yZ ?_ _;simp only [Act.put,zZ,zY,zX];all_goals (
    go_wp2_with fail
    go_roundg (rl.length - (k+1))
    case measure=>omega
    case rel=>exact ⟨k+1,x2,E2,rfl,rfl,hlt,s3,Hs.o,hK.o,Hq.o,Hb.o,hZ.o,yQ⟩)
  ·obtain rfl:k=rl.length:=yY;have he:=HE.o;rw [List.drop_length,show tg.drop rl.length=[] by rw [Ha.o,List.drop_length],V0z] at he;obtain ⟨pc,hr⟩:∃ pc,yK (slI f 0 a (X2 f)=pc):=⟨_,rfl⟩;have ht:Y2 pc=(Y2 f).drop a:=(by rw [←hr.o,X0d,Nat.sub_zero,Nat.sub_zero,List.take_of_length_le (by rw [D6];exact yQ)]);have hV:pc.length≤X2 pc:=(by rw [←hr.o];exact Q8u _ (Z0p a (X2 f) f 0));have hU:X2 pc=((Y2 f).drop a).length:=(by rw [←D6,ht]);have hz:=congrArg List.length he;rw [List.length_append] at hz;have hX:=hm.o;have hx:Q9 (Q9 E++pc)=Q9 (Q2m (Y2 f) 0 rl tg):=(by rw [Q3d,hD.o,ht,he]);have hu:=zW (fun (W:World) (ha:RdT W (.slice Ao (Q9 E).length co) (Q9 E)) (Ap:Option Addr) (cp:Nat) (hb:RdT W (.slice Ap pc.length cp) pc)=>Q8p (Q9 E) pc Ao Ap co cp W ha hb yY (by rw [X2m,L9];omega));rw [hx] at hu;have CS1:=zW (fun (w':World) (h:RdT w' (.slice A f.length c) f)=>CS.o a (X2 f) w' h Hg yQ);rw [hr.o] at CS1;clear he ht hV hU hz hX hx Hk Hj Hn;generalize X2 f=lf at CL CS1 Hg hL ⊢;go_wp2_with (first
    | (go_at_call 62;refine (CL.o _ (by exact RdE.below H1.o HB.o yQ)).mono ?_;rintro e w1 ⟨rfl,hR⟩;have hG:=zW (HB.o.trans (hR.mono HB.o.size));have hj:=zW (RdE.below Hc.o hR yQ);clear hR)
    | (go_at_call 47;refine (CS1.o _ (by exact RdE.below H1.o hG.o yQ)).mono ?_;rintro e w2 ⟨vp,rfl,hp,hd⟩;obtain ⟨Ap,cp,rfl⟩:=Q0 hp;have hN:=zW (OwnE.rd Q5 hp);have hH:=zW (hG.o.trans (hd.mono hG.o.size));have hO:=zW (RdE.below hj.o hd yQ);clear hp hd)
    | (go_at_call 113;refine (hu.o _ (by exact hO.o) Ap cp (by exact hN.o)).mono ?_;rintro e w3 ⟨v3,rfl,hT,Hi⟩;obtain ⟨A9,c9,rfl⟩:=Q0 hT;have Hr:=zW (Y7 hT hH.o.size);have Ho:=zW (hH.o.trans (Hi.mono hH.o.size));clear hT Hi))
   first | go_ret | skip
   rw [Hd.o];exact ⟨_,rfl,Hr.o,Ho.o⟩
theorem Y6o {fn:Func} {p u:Tmp} (h:fn.results=#[.cell p 41,.tmp u]) (tmps:Array Value) (w:World) (g:Nat) (k:Int) (A:Option Addr) (n c:Nat) (x:Value) (hp:tmps.getD p undef=.pointer (some ⟨g,0,none⟩)) (hu:tmps.getD u undef=x)
 (c0:w.cell? ⟨g,0,none⟩=some (.int .i64 k)) (c1:w.cell? ⟨g,1,none⟩=some (.slice A n c)):
 (results fn tmps).run Tryz.prog w=.ok (.tuple #[.agg #[.int .i64 k,.slice A n c],x]) w:=by
 rw [results_cell_tmp h,hp,hu];go_simp
theorem Z5x {w:World} {B:Nat} {e:TypeId} {size n c:Nat} {A:Option Addr} {xs:List Value} {m:Nat} (h:w.ownsRow B e size (.slice A m c) n xs) (hn:0 < n):∃ bk,A=some ⟨bk,0,none⟩∧B≤bk:=by
 rcases h.2 with ⟨_,h0⟩ | ⟨g',cap,cur,hv,hbg,_⟩
 ·omega
 ·injection hv with hv;exact ⟨g',hv,hbg⟩
theorem Y4p:∀ (ps:List Pt) (k:Nat) (hk:k < ps.length) (nb:ByteArray),(ps[k]).un=true→(ps.flatMap ptC).set (k * 3+2) (.string nb)=(ps.set k ⟨true,ps[k].key,nb⟩).flatMap ptC
 | [],k,hk,_,_=>by simp at hk
 | p::ps,0,hk,nb,hu=>by
   simp only [List.getElem_cons_zero] at hu;simp [ptC,hu]
 | p::ps,k+1,hk,nb,hu=>by
   have ih:=Y4p ps k (by simpa using hk) nb (by simpa using hu);rw [List.set_cons_succ,List.flatMap_cons,List.flatMap_cons,List.getElem_cons_succ,←ih];show ([Value.bool p.un,Value.string p.key,Value.string p.raw]++ps.flatMap ptC).set ((k+1) * 3+2) _=[Value.bool p.un,Value.string p.key,Value.string p.raw]++_;rw [show (k+1) * 3+2=k * 3+2+1+1+1 by omega];rfl
theorem V1p (ts:Els) (p:Nat) (tg:List Els):F6 ts p [] tg=J7 ts p:=by cases tg<;>rfl
theorem X1l (ts:Els) (p q:Nat) (h:p≤q):(Q2 (Z9 ts p)).length≤(Q2 (Z9 ts q)).length:=by
 obtain ⟨d,rfl⟩:∃ d,q=p+d:=⟨q - p,yY⟩;rw [Q2z,P7,List.length_append];omega
theorem Q8k (ts:Els) (p:Nat):(Q2 (Z9 ts p)).length≤(Q2 ts).length:=by
 rw [R1 ts p,List.length_append];omega
theorem Y0h {w:World} {A:Option Addr} {n c:Nat} {l:List Int} (h:RdE V6 1 w (.slice A n c) l) (k:Nat) {v:Int} (hk:l[k]? =some v):∃ b o,A=some ⟨b,o,none⟩∧w.cell? ⟨b,o+k,none⟩=some (.int .i64 v):=by
 obtain ⟨hl,hv⟩:=List.getElem?_eq_some_iff.1 hk;obtain ⟨b,o,hA,_,hc⟩:=Q3y h k hl;exact ⟨b,o,hA,by rw [hc,hv]⟩
theorem Z0a {w:World} {b o n c:Nat} {l:List Int} (h:RdE V6 1 w (.slice (some ⟨b,o,none⟩) n c) l) (k:Nat) {v:Int} (hk:l[k]? =some v):w.cell? ⟨b,o+k,none⟩=some (.int .i64 v):=by
 obtain ⟨b',o',hA,hc⟩:=Y0h h k hk;injection hA with hA;injection hA with e1 e2 _;rw [e1,e2];exact hc
structure RplOk (m fmt:Int) (ps:List Pt) (k:Nat) (ts:Els) (cs:List Int) (rl:List (Nat×Nat)) (tg:List (List Tk)) (n:Nat):Prop where
 fm:E7 fmt
 len:ps.length≤100000
 size:(Z0 ps).length≤1000000
 spl:X8u m fmt (ofL (Z0 ps)) ps
 kl:k < ps.length
 un:(ps[k]'kl).un=true
 raw:(ps[k]'kl).raw=ofL (Q2 ts)
 rsz:(Q2 ts).length≤1000000
 dec:X8t m fmt (ofL (Q2 ts)) (Q9 (X1 ts))
 one:Y2 (X1 ts)=X1 ts
 pos:(X1 ts).length≤500
 cut:V6i m fmt (ofL (Q2 ts)) cs
 csl:cs.length=(X1 ts).length+1
 cat:∀ p,p≤(X1 ts).length→cs[p]? =some ((Q2 (Z9 ts p)).length:Int)
 rtl:rl.length=tg.length
 rll:rl.length≤100000
 asc:Y0y 0 rl (X1 ts).length
 tgn:∀ t∈tg,Normal t
 enc:∀ t∈tg,V6j m fmt t (ofL (J5 fmt t))
 new:X8t m fmt (ofL (Q2 (F6 ts 0 rl (tg.map (tsF fmt))))) (Q9 (X1 (F6 ts 0 rl (tg.map (tsF fmt)))))
 none_:Y2 (X1 (F6 ts 0 rl (tg.map (tsF fmt))))=X1 (F6 ts 0 rl (tg.map (tsF fmt)))
 npos:(X1 (F6 ts 0 rl (tg.map (tsF fmt)))).length≤500
 nrsz:(Q2 (F6 ts 0 rl (tg.map (tsF fmt)))).length≤1000000
 num:J2 (Q9 (X1 (F6 ts 0 rl (tg.map (tsF fmt))))) []=Q1c n
 nle:n≤100000
 knd:∀ x∈Q9 (X1 (F6 ts 0 rl (tg.map (tsF fmt)))),KindT n x
 nsz:(Z0 (ps.set k ⟨true,(ps[k]'kl).key,ofL (Q2 (F6 ts 0 rl (tg.map (tsF fmt))))⟩)).length≤65536
theorem X3x {m fmt:Int} {ps:List Pt} {k:Nat} {ts:Els} {cs:List Int} {rl:List (Nat×Nat)} {tg:List (List Tk)} {n:Nat} (h:RplOk m fmt ps k ts cs rl tg n) (A A2 A3:Option Addr) (c c2 c3:Nat) (w:World) (hm:w.cell? ⟨0,0,none⟩=some (.int .i64 m)) (h1:RdE ptC 3 w (.slice A ps.length c) ps) (h2:RdE Y6 2 w (.slice A2 rl.length c2) rl) (h3:RdTT w (.slice A3 tg.length c3) tg):
 Calls Tryz.prog 32 #[.agg #[.int .i64 fmt,.slice A ps.length c],.int .i64 k,.slice A2 rl.length c2,.slice A3 tg.length c3] w (fun e w'=>∃ A' c',e=.returned (.tuple #[.agg #[.int .i64 fmt,.slice A' ps.length c'],.int .i64 0])∧OwnE 52 ptC 3 w' w.heap.size (.slice A' ps.length c') (ps.set k ⟨true,(ps[k]'h.kl).key,ofL (Q2 (F6 ts 0 rl (tg.map (tsF fmt))))⟩)∧Below w.heap.size w w'):=by
 obtain ⟨R,ie⟩:∃ R:Ending→World→Prop,yK (R=fun e w'=>∃ A' c',e=.returned (.tuple #[.agg #[.int .i64 fmt,.slice A' ps.length c'],.int .i64 0])∧OwnE 52 ptC 3 w' w.heap.size (.slice A' ps.length c') (ps.set k ⟨true,(ps[k]'h.kl).key,ofL (Q2 (F6 ts 0 rl (tg.map (tsF fmt))))⟩)∧Below w.heap.size w w'):=⟨_,rfl⟩;rw [←ie.o]
 -- WALK
 have hE:rl.length=tg.length:=h.rtl;have hn:=zW hE;rw [hE] at h2 ⊢;clear hE;obtain ⟨f,hf⟩:∃ f,yK (Q9 (X1 ts)=f):=⟨_,rfl⟩;obtain ⟨raw,hg⟩:∃ raw,yK (ofL (Q2 ts)=raw):=⟨_,rfl⟩;obtain ⟨NEW,hh⟩:∃ NEW,yK (Q2 (F6 ts 0 rl (tg.map (tsF fmt)))=NEW):=⟨_,rfl⟩;have Hd:X2 f=(X1 ts).length:=(by rw [←hf.o,L9,Q0r _ h.one]);have jb:f.length≤500:=by
  have:=Q5z (X1 ts);rw [hf.o,Q0r _ h.one] at this;have:=h.pos;omega
 have Hs:Y2 f=X1 ts:=(by rw [←hf.o,Q7e,h.one]);have hM:yK (Q9 (Q2m (Y2 f) 0 rl tg)=Q9 (X1 (F6 ts 0 rl (tg.map (tsF fmt))))):=(by show _=_;rw [Hs,Q7h]);have HH:=zW h;have HM:=zW hm;have HP:=zW h1;have ic:=zW h2;have ih:=zW h3;have Hz:raw.size=(Q2 ts).length:=(by rw [←hg.o,Q6]);have iW:raw.size≤1000000:=(by rw [Hz];exact h.rsz);have CV:=zW (fun (W:World) (hW:Below w.heap.size w W)=>Y8i m fmt h.fm ps h.spl A c W (X6 hm hW) (RdE.below h1 hW yQ) h.len h.size);have CC:=zW (fun (W:World) (hW:Below w.heap.size w W)=>Q0l m fmt h.fm ps f k h.kl h.un (by rw [h.raw,←hf.o];exact h.dec) A c W (X6 hm hW) (RdE.below h1 hW yQ) h.len);have CL:=zW (fun (v:Value) (W:World) (hr:RdT W v f)=>Q0n f v W hr (by have:=h.pos;omega) yY);have CA:=zW (fun (W:World) (hW:Below w.heap.size w W)=>V2p rl (X2 f) _ W (RdE.below h2 hW yQ) h.rll (by have:=h.pos;omega) (by rw [Hd];exact h.asc));have CCU:=zW (fun (W:World) (hW:Below w.heap.size w W)=>Z8b fmt h.fm raw cs W (by rw [←hg.o];exact h.cut W (X6 hm hW)));have Hc:=h.kl;have je:=h.len;have iV:tg.length≤100000:=(by rw [←hn.o];exact h.rll);obtain ⟨b,o,rfl,hb,p0,p1,p2⟩:=RdP.at_ h1 k h.kl;have iB:yK (w.cell? ⟨b,o+k * 3+2,none⟩=some (.string raw)):=(by show _=_;rw [p2,h.raw,hg.o]);have hq:yK (Below w.heap.size w (((w.alloc (.cells #[.int .i64 fmt,.slice (some ⟨b,o,none⟩) ps.length c] 41)).alloc (.cells #[.int .i64 0,.slice none 0 0] 41)).alloc (.cells #[.int .i64 0,.slice none 0 0] 41))):=zW ((((Below.refl w.heap.size w).alloc yQ _).alloc yW _).alloc yV _);have hw:yK ((((w.alloc (.cells #[.int .i64 fmt,.slice (some ⟨b,o,none⟩) ps.length c] 41)).alloc (.cells #[.int .i64 0,.slice none 0 0] 41)).alloc (.cells #[.int .i64 0,.slice none 0 0] 41)).heap[w.heap.size]? =some (.cells #[.int .i64 fmt,.slice (some ⟨b,o,none⟩) ps.length c] 41)):=by
  show _=_;rw [Below.heap_alloc _ _ _ yV,Below.heap_alloc _ _ _ yW];exact heap_alloc_new w _
 have hG:yK ((((w.alloc (.cells #[.int .i64 fmt,.slice (some ⟨b,o,none⟩) ps.length c] 41)).alloc (.cells #[.int .i64 0,.slice none 0 0] 41)).alloc (.cells #[.int .i64 0,.slice none 0 0] 41)).heap[w.heap.size+1]? =some (.cells #[.int .i64 0,.slice none 0 0] 41)):=by
  show _=_;rw [Below.heap_alloc _ _ _ yW];have:=heap_alloc_new (w.alloc (.cells #[.int .i64 fmt,.slice (some ⟨b,o,none⟩) ps.length c] 41)) (.cells #[.int .i64 0,.slice none 0 0] 41);simpa using this
 have Hb:=zW Hd;have ig:=zW Hz;have Ht:=zW Hs;have Hv:X2 f≤500:=(by rw [Hd];exact h.pos);clear h1 h2 h3 hm p0 p1 p2 Hs hf Hd Hz;obtain ⟨lf,hz⟩:∃ lf,yK (X2 f=lf):=⟨_,rfl⟩;rw [hz.o] at CL CA Hb Hv;go_enter Tryz.func32,Tryz.ntmps32
 go_upto_region 2 with fail
 generalize ((w.alloc (.cells #[.int .i64 fmt,.slice (some ⟨b,o,none⟩) ps.length c] 41)).alloc (.cells #[.int .i64 0,.slice none 0 0] 41)).alloc (.cells #[.int .i64 0,.slice none 0 0] 41)=W0 at hq hw hG ⊢;obtain ⟨g,Hu⟩:∃ g,yK (w.heap.size=g):=⟨_,rfl⟩;rw [Hu.o] at hw hG;rw [Hu.o];have ip:w.heap.size≤g:=Nat.le_of_eq Hu.o;obtain ⟨x0,x1,_⟩:=bx2 hw.o;go_upto_region 11 with (first
  | (go_at_call 65;refine (CV.o _ (by exact hq.o)).mono ?_;rintro e W1 ⟨rfl,hk⟩;have hl:=zW (hq.o.trans (hk.mono hq.o.size));have hF:=zW (Q4 hw.o hk);have hP:=zW (Q4 hG.o hk);obtain ⟨y0,y1,_⟩:=bx2 hF.o;clear hk)
  | (go_at_call 27;refine (CC.o _ (by exact hl.o)).mono ?_;rintro e W2 ⟨vf,rfl,hD,hc⟩;obtain ⟨Af,cf,rfl⟩:=Q0 hD;have ht:=zW (hl.o.trans (hc.mono hl.o.size));have hN:=zW (Q4 hF.o hc);have hQ:=zW (Q4 hP.o hc);have Hh:=zW (OwnE.rd Q5 hD);clear hD hc)
  | (go_at_call 62;refine (CL.o _ _ (by exact Hh.o)).mono ?_;rintro e W3 ⟨rfl,hd⟩;have hu:=zW (ht.o.trans (hd.mono ht.o.size));have hO:=zW (Q4 hN.o hd);have hR:=zW (Q4 hQ.o hd);have HL:=zW (RdE.below Hh.o hd yQ);clear hd)
  | (go_at_call 66;refine (CA.o _ (by exact hu.o)).mono ?_;rintro e W4 ⟨rfl,hT⟩;have hK:=zW (hu.o.trans (hT.mono hu.o.size));have Hl:=zW (Q4 hO.o hT);have ij:=zW (Q4 hR.o hT);have HN:=zW (RdE.below HL.o hT yQ);obtain ⟨z0,z1,_⟩:=bx2 Hl.o;have z2:=(hK.o.cell (p:=⟨b,o+k * 3+2,none⟩) hb).trans iB.o;clear hT))
 go_upto_region 16 with (go_at_call 67;refine (CCU.o _ (by exact hK.o)).mono ?_;rintro e W5 ⟨vc,rfl,Hy,hU⟩;obtain ⟨Ac,cc,rfl⟩:=Q0 Hy;have HA:=zW (hK.o.trans (hU.mono hK.o.size));have ii:=zW (Q4 Hl.o hU);have ik:=zW (Q4 ij.o hU);have HQ:=zW (RdE.below HN.o hU yQ);have HI:=zW (OwnE.rd J9 Hy);clear Hy hU)
 have im:((Q2 (Z9 ts 0)).length:Int)=0:=by cases ts<;>rfl
 go_loopg [16,17,73] tg.length (fun gk sv av iv wr=>∃ (i p:Nat) (sb:ByteArray),sv=.string sb∧av=.int .i64 ((Q2 (Z9 ts p)).length:Nat)∧iv=.int .i64 i∧i≤tg.length∧p≤lf∧yK (Y0y p (rl.drop i) lf)∧yK (sb.data.toList++Q2 (F6 ts p (rl.drop i) ((tg.drop i).map (tsF fmt)))=NEW)∧yK (Below w.heap.size w wr)∧yK (wr.heap[g]? =some (.cells #[.int .i64 fmt,.slice (some ⟨b,o,none⟩) ps.length c] 41))∧yK (wr.heap[g+1]? =some (.cells #[.int .i64 0,.slice none 0 0] 41))∧yK (RdT wr (.slice Af f.length cf) f)∧yK (RdE V6 1 wr (.slice Ac cs.length cc) cs)∧tg.length - i≤gk)
 case atStart=>exact ⟨0,0,⟨#[]⟩,rfl,by rw [im],rfl,Nat.zero_le _,Nat.zero_le _,by rw [Hb.o];exact HH.o.asc,hh.o,HA.o,ii.o,ik.o,HQ.o,HI.o,yQ⟩
 case round=>
  obtain ⟨i,p,sb,rfl,rfl,rfl,hi,jd,HS,HE,HB,HX,HY,HF,HC,hgk⟩:=hrel;clear im HA ii ik HQ HI hK Hl ij HN hu hO hR HL ht hN hQ Hh hl hF hP hq hw hG CV CC CL CA CCU x0 x1 y0 y1 z0 z1 z2;have ja:NEW.length≤1000000:=(by rw [←hh.o];exact HH.o.nrsz);by_cases hlt:i < tg.length
  ·have ir:i < rl.length:=(by rw [hn.o];exact hlt);obtain ⟨b2,o2,iG,hc,c0,c1⟩:=X7h ic.o i ir;obtain ⟨b3,o3,At,ct,iH,hd,t00,hZ⟩:=RdTT.at_ ih.o i hlt;subst iG;subst iH;have hs:=HS.o;have he:=HE.o;rw [List.drop_eq_getElem_cons ir] at hs he;rw [List.drop_eq_getElem_cons hlt,List.map_cons,F6] at he;have hY:=List.getElem_mem hlt;have hV:=HH.o.enc _ hY;generalize rl[i]=x at *;generalize tg[i]=tk at *;obtain ⟨x1,x2⟩:=x;obtain ⟨s1,s2,s3,s4⟩:=hs;simp only at c0 c1 s1 s2 s3 s4 he;have iC:=zW s4;rw [P7,P7,Z3a] at he;have CE:=zW (fun (W:World) (hW:Below w.heap.size w W)=>V3i fmt HH.o.fm At tk.length ct (ofL (J5 fmt tk)) W (hV At ct W (X6 HM.o hW) (RdE.below hZ hW yQ)));obtain ⟨e1,Hp⟩:∃ e1:ByteArray,yK (ofL (Q2 (Z9 (J7 ts p) (x1 - p)))=e1):=⟨_,rfl⟩;obtain ⟨e2,Hq⟩:∃ e2:ByteArray,yK (ofL (J5 fmt tk)=e2):=⟨_,rfl⟩;rw [Hq.o] at CE;have hS:=congrArg List.length he;simp only [List.length_append] at hS;have z1:e1.size=(Q2 (Z9 (J7 ts p) (x1 - p))).length:=(by rw [←Hp.o,Q6]);have z2:e2.size=(J5 fmt tk).length:=(by rw [←Hq.o,Q6]);have z3:sb.size=sb.data.toList.length:=Lib.size_eq sb;have iY:e1.size≤1000000:=yY;have jf:e2.size≤1000000:=yY;have iZ:sb.size≤1000000:=yY;have jc:=X1l ts p x1 s1;have iS:=X1l ts x1 x2 s2;have iT:=Q8k ts x2;have iw:x2≤(X1 ts).length:=(by rw [←Hb.o];exact s3);have iO:=HH.o.cat x1 (Nat.le_trans s2 iw);have iq:=HH.o.cat x2 iw;have iL:raw.extract (Q2 (Z9 ts p)).length (Q2 (Z9 ts x1)).length=e1:=by
    rw [←Hp.o,←hg.o];refine D7 _ _ _ _ ?_;rw [show (ofL (Q2 ts)).data.toList=Q2 ts by simp [ofL],V5a ts p x1 s1];simp [ofL]
   have iz:yK ((sb++(e1++e2)).data.toList++Q2 (F6 ts x2 (rl.drop (i+1)) ((tg.drop (i+1)).map (tsF fmt)))=NEW):=by
    show _=_;rw [←he,←Hp.o,←Hq.o];simp [ofL]
   have iU:(Q2 (Z9 ts x1)).length≤raw.size:=(by rw [ig.o];omega);have iP:(i:Int) < (tg.length:Int):=yY;have iQ:x1 < cs.length:=(by rw [HH.o.csl];omega);have iR:x2 < cs.length:=(by rw [HH.o.csl];omega);have hH:=(Below.refl wr.heap.size wr).alloc yQ (.cells #[.int .i64 x1,.int .i64 x2] 54);have hL:=zW (HB.o.trans (hH.mono HB.o.size));have Hm:=zW (Q4 HX.o hH);have il:=zW (Q4 HY.o hH);have HR:=zW (RdE.below HF.o hH yQ);have HJ:=zW (RdE.below HC.o hH yQ);have Hk:yK ((wr.alloc (.cells #[.int .i64 x1,.int .i64 x2] 54)).heap[wr.heap.size]? =some (.cells #[.int .i64 x1,.int .i64 x2] 54)):=heap_alloc_new wr _;have r0:=(HB.o.cell (p:=⟨b2,o2+i * 2,none⟩) hc).trans c0;have r1:=(HB.o.cell (p:=⟨b2,o2+i * 2+1,none⟩) hc).trans c1;clear he hS z1 z2 z3 hH s4 hY hV hZ c0 c1 HS HE HX HY HF HC;go_upto_region 18 with fail
   generalize wr.heap.size=gr at Hk ⊢;generalize wr.alloc (.cells #[.int .i64 x1,.int .i64 x2] 54)=wa at hL Hm il HR HJ Hk ⊢;obtain ⟨x0,x1',_⟩:=bx2 Hm.o;have t0:=(hL.o.cell (p:=⟨b3,o3+i,none⟩) hd).trans t00;clear r0 r1 HB;generalize (Q2 (Z9 ts p)).length=a0 at *;generalize (Q2 (Z9 ts x1)).length=a1 at *;obtain ⟨a2,io⟩:∃ a2,yK ((Q2 (Z9 ts x2)).length=a2):=⟨_,rfl⟩;rw [io.o] at iq iS iT;go_region_with (go_at_call 68;refine (CE.o _ ?hbx).mono ?_;(case hbx=>(repeat' (first | exact hL.o | refine Q1 ?_ _ | refine Below.drew ?_)));rintro e W6 ⟨rfl,hI⟩;have hx:Below wa.heap.size wa W6:=⟨hI.os,hI.tape,hI.output,hI.size,hI.block⟩;have ix:=zW (hL.o.trans (hx.mono hL.o.size));have iD:=zW (Q4 Hm.o hx);have iE:=zW (Q4 il.o hx);have iA:=zW (RdE.below HR.o hx yQ);have Hg:=zW (RdE.below HJ.o hx yQ);obtain ⟨q0,q1,_⟩:=bx2 (Q4 Hk.o hx);clear hI hx)
   all_goals (
    obtain ⟨bc,oc,rfl,d1⟩:=Y0h Hg.o x1 iO;have d2:=Z0a Hg.o x2 iq;go_wp2_with fail
    go_roundg (tg.length - (i+1))
    case measure=>omega
    case rel=>exact ⟨i+1,x2,sb++(e1++e2),rfl,by rw [io.o],rfl,hlt,s3,iC.o,iz.o,ix.o,iD.o,iE.o,iA.o,Hg.o,yQ⟩)
  ·obtain rfl:i=tg.length:=yY;have he:=HE.o;rw [show rl.drop tg.length=[] by rw [←hn.o,List.drop_length],List.drop_length,List.map_nil,V1p] at he;obtain ⟨e9,Hr⟩:∃ e9:ByteArray,yK (ofL (Q2 (J7 ts p))=e9):=⟨_,rfl⟩;obtain ⟨nb,He⟩:∃ nb:ByteArray,yK (ofL NEW=nb):=⟨_,rfl⟩;obtain ⟨fN,hX⟩:∃ fN,yK (Q9 (X1 (F6 ts 0 rl (tg.map (tsF fmt))))=fN):=⟨_,rfl⟩;have hS:=congrArg List.length he;rw [List.length_append] at hS;have z1:e9.size=(Q2 (J7 ts p)).length:=(by rw [←Hr.o,Q6]);have z3:sb.size=sb.data.toList.length:=Lib.size_eq sb;have iY:e9.size≤1000000:=yY;have iZ:sb.size≤1000000:=yY;have iL:raw.extract (Q2 (Z9 ts p)).length raw.size=e9:=by
    rw [←Hr.o,←hg.o];refine D7 _ _ _ _ ?_;rw [show (ofL (Q2 ts)).data.toList=Q2 ts by simp [ofL],Q6,List.take_length,V0u];simp [ofL]
   have iK:sb++e9=nb:=by
    apply ByteArray.ext;apply Array.toList_inj.1;rw [←He.o,←Hr.o,←he];simp [ofL]
   have iU:(Q2 (Z9 ts p)).length≤raw.size:=(by rw [ig.o];exact Q8k ts p);have hA:=HH.o.new;rw [hh.o,He.o,hX.o] at hA;rw [hX.o] at hM;have iM:fN.length≤500∧X2 fN≤500:=by
    have h1:=Q5z (X1 (F6 ts 0 rl (tg.map (tsF fmt))));have h2:=L9 (X1 (F6 ts 0 rl (tg.map (tsF fmt))));have h3:=Q0r _ HH.o.none_;have h4:=HH.o.npos;rw [hX.o] at h1 h2;omega
   have it:Q9 fN=fN:=(by rw [←hX.o,Q1b _ (C9 _)]);have CD:=zW (fun (W:World) (hW:Below w.heap.size w W)=>Z1p fmt HH.o.fm nb fN W (hA W (X6 HM.o hW)));have CR:=zW (fun (W:World) (hW:Below w.heap.size w W) (hr:RdT W (.slice Af f.length cf) f)=>Y2m f rl tg _ _ _ W hr (RdE.below ic.o hW yQ) (RdTT.below ih.o hW yQ) hn.o HH.o.rll yY (by rw [hz.o];omega) (by rw [hz.o,Hb.o];exact HH.o.asc) (by rw [Ht.o,←Q7h fmt];exact Nat.le_trans HH.o.npos yX) HH.o.tgn);rw [hM.o] at CR;have hC:=HH.o.num;have hy:=HH.o.knd;rw [hX.o] at hC hy;have CN:=zW (fun (v:Value) (W:World) (hr:RdT W v fN)=>Y2k fN n v W hr yY yY HH.o.nle hy hC);rw [it] at CN;have CSM:=zW (fun (va vb:Value) (W:World) (ha:RdT W va fN) (hb:RdT W vb fN)=>V1j fN va vb W ha hb yY);clear he hS z1 z3 hA it hC hy HS HE HC hgk;generalize (Q2 (Z9 ts p)).length=a0 at *;obtain ⟨x0,x1,_⟩:=bx2 HX.o;go_upto_region 30 with (first
    | (go_at_call 56;refine (CD.o _ (by exact HB.o)).mono ?_;rintro e W1 ⟨vg,rfl,Hw,hk⟩;obtain ⟨Ag,cg,rfl⟩:=Q0 Hw;have HT:=zW (OwnE.rd Q5 Hw);have hl:=zW (HB.o.trans (hk.mono HB.o.size));have hF:=zW (Q4 HX.o hk);have hP:=zW (Q4 HY.o hk);have HK:=zW (RdE.below HF.o hk yQ);clear Hw hk)
    | (go_at_call 71;refine (CR.o _ (by exact hl.o) (by exact HK.o)).mono ?_;rintro e W2 ⟨v2,rfl,hD,hc⟩;obtain ⟨Ah,ch,rfl⟩:=Q0 hD;have HZ:=zW (OwnE.rd Q5 hD);have HU:=zW (RdE.below HT.o hc yQ);have ht:=zW (hl.o.trans (hc.mono hl.o.size));have hN:=zW (Q4 hF.o hc);have hQ:=zW (Q4 hP.o hc);clear hD hc)
    | (go_at_call 70;refine (CN.o _ _ (by exact HZ.o)).mono ?_;rintro e W3 ⟨v3,rfl,Hx,hd⟩;obtain ⟨Ai,ci,rfl⟩:=Q0 Hx;have ia:=zW (OwnE.rd Q5 Hx);have HV:=zW (RdE.below HU.o hd yQ);have hu:=zW (ht.o.trans (hd.mono ht.o.size));have hO:=zW (Q4 hN.o hd);have hR:=zW (Q4 hQ.o hd);clear Hx hd)
    | (go_at_call 69;refine (CSM.o _ _ _ (by exact HV.o) (by exact ia.o)).mono ?_;rintro e W4 ⟨rfl,n4,rfl⟩))
   have CLO:=zW (fun (W:World) (hW:Below w.heap.size w W)=>Y8h ps _ W (RdE.below HP.o hW yQ) yY (by intro e;rw [e] at Hc;simp at Hc));have hq:yK (Below w.heap.size w (W3.drewN n4).drew):=(Q1 hu.o n4).drew;have hw:yK ((W3.drewN n4).drew.heap[g]? =some (.cells #[.int .i64 fmt,.slice (some ⟨b,o,none⟩) ps.length c] 41)):=hO.o;have hG:yK ((W3.drewN n4).drew.heap[g+1]? =some (.cells #[.int .i64 0,.slice none 0 0] 41)):=hR.o;clear HB HX HY HF hl hF hP HK HT HZ HU ht hN hQ HV ia hu hO hR CD CR CN CSM x0 x1;refine zqR (l0:=bL 8 0) 8 kr ?_;show let oo:=_;let q:=_;let a0:=_;wpAny Tryz.prog _ oo q _ _ a0 _
   intro oo q a0;let a_:Act:=(a0.put (some 135) (.pointer (some ⟨g,0,none⟩))).put (some 137) (.pointer (some ⟨g,1,none⟩))
   let a_0:Act:=a_.put (some 136) (.int .i64 fmt)
   let a_1:Act:=a_.put (some 138) (.slice (some ⟨b,o,none⟩) ps.length c)
   let a_3:Nat→Act:=fun g3=>a_.put (some 23) (.pointer (some ⟨g3,0,none⟩))
   let a_01:Act:=a_0.put (some 138) (.slice (some ⟨b,o,none⟩) ps.length c)
   let a_03:Nat→Act:=fun g3=>a_0.put (some 23) (.pointer (some ⟨g3,0,none⟩))
   let a_12:Option Addr→Nat→Act:=fun A9 c9=>a_1.put (some 139) (.slice A9 ps.length c9)
   let a_13:Nat→Act:=fun g3=>a_1.put (some 23) (.pointer (some ⟨g3,0,none⟩))
   let a_012:Option Addr→Nat→Act:=fun A9 c9=>(a_01.put (some 139) (.slice A9 ps.length c9)).put (some 140) (.agg #[.int .i64 fmt,.slice A9 ps.length c9])
   let a_013:Nat→Act:=fun g3=>a_01.put (some 23) (.pointer (some ⟨g3,0,none⟩))
   let a_123:Option Addr→Nat→Nat→Act:=fun A9 c9 g3=>(a_12 A9 c9).put (some 23) (.pointer (some ⟨g3,0,none⟩))
   let a_0123:Option Addr→Nat→Nat→Act:=fun A9 c9 g3=>(a_012 A9 c9).put (some 23) (.pointer (some ⟨g3,0,none⟩))
   have S01234:∀ (W:World) (A9:Option Addr) (c9:Nat) (g3:Nat),Below w.heap.size w W→W.heap[g]? =some (.cells #[.int .i64 fmt,.slice (some ⟨b,o,none⟩) ps.length c] 41)→W.heap[g+1]? =some (.cells #[.int .i64 0,.slice none 0 0] 41)→W.heap[g3]? =some (.cells #[.int .i64 fmt,.slice A9 ps.length c9] 41)→OwnE 52 ptC 3 W w.heap.size (.slice A9 ps.length c9) ps→wpAny Tryz.prog .any oo q 0 (bL 8 255) (a_0123 A9 c9 g3) W:=by
    intro W A9 c9 g3 HB HX HY HG HO;simp only [a_0123,a_012,a_01,a_0,a_,a0,Act.put,zZ,zY,zX];refine wpAny_done yZ ?_ _;simp only [q];have HD:=zW HB;have Ho:=zW HY;have Ha:=zW HG;have hv:=zW HO;clear HB HX HY HG HO;generalize W=V at *;obtain ⟨bk,rfl,iI⟩:=Z5x hv.o yY;have r2:V.cell? ⟨bk,k * 3+2,none⟩=some (.string raw):=by
     rw [World.ownsRow.cellAt hv.o (k * 3+2) yY,Q1y ptC 3 K0 ps k 2 ps[k] (List.getElem?_eq_getElem Hc) yX];show some (Value.string ps[k].raw)=_;rw [HH.o.raw,hg.o]
    have f2:=World.ownsRow.frozenAt hv.o (k * 3+2);have iu:=(World.ownsRow.stored hv.o (k * 3+2) (.string nb)).1;have Hj:yK (OwnE 52 ptC 3 (V.setCell ⟨bk,k * 3+2,none⟩ (.string nb)) w.heap.size (.slice (some ⟨bk,0,none⟩) ps.length c9) (ps.set k ⟨true,ps[k].key,nb⟩)):=by
     show OwnE _ _ _ _ _ _ _;unfold OwnE;rw [List.length_set,←Y4p ps k Hc nb HH.o.un];exact iu
    have iN:g3≠bk:=fun e=>Y1 hv.o Ha.o yX bk rfl e.symm;have iX:g+1≠bk:=fun e=>Y1 hv.o Ho.o yX bk rfl e.symm;have Hi:yK ((V.setCell ⟨bk,k * 3+2,none⟩ (.string nb)).heap[g3]? =some (.cells #[.int .i64 fmt,.slice (some ⟨bk,0,none⟩) ps.length c9] 41)):=(Below.heap_setCell _ _ _ _ iN).trans Ha.o;have Hn:yK ((V.setCell ⟨bk,k * 3+2,none⟩ (.string nb)).heap[g+1]? =some (.cells #[.int .i64 0,.slice none 0 0] 41)):=(Below.heap_setCell _ _ _ _ iX).trans Ho.o;have Hf:=zW (HD.o.setCell (p:=⟨bk,k * 3+2,none⟩) iI (.string nb));have hp:(ps.set k ⟨true,ps[k].key,nb⟩).length=ps.length:=List.length_set;have hB:=HH.o.nsz;rw [hh.o,He.o] at hB;have CB:=zW (fun (W:World) (hr:RdE ptC 3 W (.slice (some ⟨bk,0,none⟩) ps.length c9) (ps.set k ⟨true,ps[k].key,nb⟩))=>Q6v fmt (ps.set k ⟨true,ps[k].key,nb⟩) (some ⟨bk,0,none⟩) c9 W (by rw [hp];exact hr) (by rw [hp];omega) yY);rw [hp] at CB;have iJ:(ofL (Z0 (ps.set k ⟨true,ps[k].key,nb⟩))).size≤65536:=(by rw [Q6];exact hB);generalize ofL (Z0 (ps.set k ⟨true,ps[k].key,nb⟩))=bb at CB iJ;obtain ⟨g0,g1,_⟩:=bx2 Ha.o;have ib:=zW (OwnE.rd K0 Hj.o);clear iu hB hp;go_upto_region 32 with fail
    generalize V.setCell ⟨bk,k * 3+2,none⟩ (.string nb)=V9 at Hj Hi Hn Hf ib ⊢;obtain ⟨h0,h1,_⟩:=bx2 Hi.o;clear g0 g1 r2 f2 Ha Ho hv HD;go_wp2_with (go_at_call 24;refine (CB.o _ (by exact ib.o)).mono ?_;rintro e Vb ⟨rfl,hJ⟩;have iy:=zW (Hf.o.trans (hJ.mono Hf.o.size));have iF:=zW (Q4 Hn.o hJ);have HW:=zW (Q6e Hj.o hJ);obtain ⟨k0,k1,_⟩:=bx2 (Q4 Hi.o hJ);obtain ⟨l0,l1,m0,m1⟩:=bx2 (Q4 Hn.o hJ);clear hJ)
    refine bodyPost_ret (Y6o rfl _ _ (g+1) fmt (some ⟨bk,0,none⟩) ps.length c9 _ rfl rfl yU yU) rfl ?_;rw [ie.o];refine ⟨some ⟨bk,0,none⟩,c9,rfl,?_,(iy.o.setCell (p:=⟨g+1,0,none⟩) (by show _≤g+1;omega) _).setCell (p:=⟨g+1,1,none⟩) (by show _≤g+1;omega) _⟩;rw [hh.o,He.o];have:=(Q8 (w':=(Vb.setCell ⟨g+1,0,none⟩ (.int .i64 fmt)).setCell ⟨g+1,1,none⟩ (.slice (some ⟨bk,0,none⟩) ps.length c9)) HW.o fun j hj=>G2 (fun e=>Y1 HW.o iF.o yX j hj e));unfold OwnE at this ⊢;rw [List.length_set] at this ⊢;exact this
   have S0123:∀ (W:World) (A9:Option Addr) (c9:Nat) (g3:Nat),Below w.heap.size w W→W.heap[g]? =some (.cells #[.int .i64 fmt,.slice (some ⟨b,o,none⟩) ps.length c] 41)→W.heap[g+1]? =some (.cells #[.int .i64 0,.slice none 0 0] 41)→W.heap[g3]? =some (.cells #[.int .i64 0,.slice none 0 0] 41)→g+1 < g3→OwnE 52 ptC 3 W w.heap.size (.slice A9 ps.length c9) ps→wpAny Tryz.prog .any oo q 1 (bL 8 127) (a_0123 A9 c9 g3) W:=by
    intro W A9 c9 g3 HB HX HY HG hg4 HO;simp only [a_0123,a_012,a_01,a_0,a_,a0,Act.put,zZ,zY,zX];refine zqo 7 rfl ?_;refine X3i (.tmp 23) (.tmp 140) rfl rfl g3 fmt A9 ps.length c9 yZ yZ HG ?_;exact zqX (S01234 ((W.setCell ⟨g3,0,none⟩ (.int .i64 fmt)).setCell ⟨g3,1,none⟩ (.slice A9 ps.length c9)) A9 c9 g3 ((HB.setCell (p:=⟨g3,0,none⟩) (Nat.le_trans ip (Nat.le_of_lt (Nat.lt_of_succ_lt hg4))) _).setCell (p:=⟨g3,1,none⟩) (Nat.le_trans ip (Nat.le_of_lt (Nat.lt_of_succ_lt hg4))) _) ((G2 (Nat.ne_of_lt (Nat.lt_of_succ_lt hg4))).trans HX) ((G2 (Nat.ne_of_lt hg4)).trans HY) (Q7x HG) (Q8 HO fun j hj=>G2 (fun e=>Y1 HO HG yX j hj e)))
   have S012:∀ (W:World) (A9:Option Addr) (c9:Nat),Below w.heap.size w W→W.heap[g]? =some (.cells #[.int .i64 fmt,.slice (some ⟨b,o,none⟩) ps.length c] 41)→W.heap[g+1]? =some (.cells #[.int .i64 0,.slice none 0 0] 41)→OwnE 52 ptC 3 W w.heap.size (.slice A9 ps.length c9) ps→wpAny Tryz.prog .any oo q 2 (bL 8 63) (a_012 A9 c9) W:=by
    intro W A9 c9 HB HX HY HO;simp only [a_012,a_01,a_0,a_,a0,Act.put,zZ,zY,zX];refine zqo 6 rfl ?_;refine Q7 (U4 rfl) ?_;exact zqX (S0123 (W.alloc (.cells #[.int .i64 0,.slice none 0 0] 41)) A9 c9 W.heap.size (HB.trans (((Below.refl W.heap.size W).alloc yQ _).mono HB.size)) (Q4 HX ((Below.refl W.heap.size W).alloc yQ _)) (Q4 HY ((Below.refl W.heap.size W).alloc yQ _)) (heap_alloc_new W _) (V2 HY) (Q6e HO ((Below.refl W.heap.size W).alloc yQ _)))
   have S013:∀ (W:World) (g3:Nat),Below w.heap.size w W→W.heap[g]? =some (.cells #[.int .i64 fmt,.slice (some ⟨b,o,none⟩) ps.length c] 41)→W.heap[g+1]? =some (.cells #[.int .i64 0,.slice none 0 0] 41)→W.heap[g3]? =some (.cells #[.int .i64 0,.slice none 0 0] 41)→g+1 < g3→wpAny Tryz.prog .any oo q 3 (bL 8 79) (a_013 g3) W:=by
    intro W g3 HB HX HY HG hg4;simp only [a_013,a_01,a_0,a_,a0,Act.put,zZ,zY,zX];refine zqo 4 rfl ?_;refine Q0y (.slice (some ⟨b,o,none⟩) ps.length c) rfl Tryz.func72 (CLO.o W HB) ?_;rintro e W5 ⟨v9,rfl,ho,hb⟩;obtain ⟨A9,c9,rfl⟩:=Q0 ho;refine ⟨.slice A9 ps.length c9,rfl,?_⟩;refine zzA 5 (.agg #[.int .i64 fmt,.slice A9 ps.length c9]) (some 140) rfl (fun _=>Q7c (.tmp 136) (.tmp 139) fmt A9 ps.length c9 rfl yZ yZ) ?_;exact zqX (S0123 W5 A9 c9 g3 (HB.trans (hb.mono HB.size)) (Q4 HX hb) (Q4 HY hb) (Q4 HG hb) hg4 (Y7 ho HB.size))
   have S123:∀ (W:World) (A9:Option Addr) (c9:Nat) (g3:Nat),Below w.heap.size w W→W.heap[g]? =some (.cells #[.int .i64 fmt,.slice (some ⟨b,o,none⟩) ps.length c] 41)→W.heap[g+1]? =some (.cells #[.int .i64 0,.slice none 0 0] 41)→W.heap[g3]? =some (.cells #[.int .i64 0,.slice none 0 0] 41)→g+1 < g3→OwnE 52 ptC 3 W w.heap.size (.slice A9 ps.length c9) ps→wpAny Tryz.prog .any oo q 3 (bL 8 93) (a_123 A9 c9 g3) W:=by
    intro W A9 c9 g3 HB HX HY HG hg4 HO;simp only [a_123,a_12,a_1,a_,a0,Act.put,zZ,zY,zX];refine zqo 1 rfl ?_;refine zqL (.int .i64 fmt) rfl (.pointer (some ⟨g,0,none⟩)) (O0 (bx2 HX).1) ?_;refine zzA 5 (.agg #[.int .i64 fmt,.slice A9 ps.length c9]) (some 140) rfl (fun _=>Q7c (.tmp 136) (.tmp 139) fmt A9 ps.length c9 rfl yZ yZ) ?_;exact zqX (S0123 W A9 c9 g3 HB HX HY HG hg4 HO)
   have S01:∀ (W:World),Below w.heap.size w W→W.heap[g]? =some (.cells #[.int .i64 fmt,.slice (some ⟨b,o,none⟩) ps.length c] 41)→W.heap[g+1]? =some (.cells #[.int .i64 0,.slice none 0 0] 41)→wpAny Tryz.prog .any oo q 4 (bL 8 15) a_01 W:=by
    intro W HB HX HY;simp only [a_01,a_0,a_,a0,Act.put,zZ,zY,zX];refine zqt 4 6 rfl rfl ?_ ?_
    ·refine Q0y (.slice (some ⟨b,o,none⟩) ps.length c) rfl Tryz.func72 (CLO.o W HB) ?_;rintro e W5 ⟨v9,rfl,ho,hb⟩;obtain ⟨A9,c9,rfl⟩:=Q0 ho;refine ⟨.slice A9 ps.length c9,rfl,?_⟩;refine zzA 5 (.agg #[.int .i64 fmt,.slice A9 ps.length c9]) (some 140) rfl (fun _=>Q7c (.tmp 136) (.tmp 139) fmt A9 ps.length c9 rfl yZ yZ) ?_;exact zqX (S012 W5 A9 c9 (HB.trans (hb.mono HB.size)) (Q4 HX hb) (Q4 HY hb) (Y7 ho HB.size))
    ·refine Q7 (U4 rfl) ?_;exact zqX (S013 (W.alloc (.cells #[.int .i64 0,.slice none 0 0] 41)) W.heap.size (HB.trans (((Below.refl W.heap.size W).alloc yQ _).mono HB.size)) (Q4 HX ((Below.refl W.heap.size W).alloc yQ _)) (Q4 HY ((Below.refl W.heap.size W).alloc yQ _)) (heap_alloc_new W _) (V2 HY))
   have S03:∀ (W:World) (g3:Nat),Below w.heap.size w W→W.heap[g]? =some (.cells #[.int .i64 fmt,.slice (some ⟨b,o,none⟩) ps.length c] 41)→W.heap[g+1]? =some (.cells #[.int .i64 0,.slice none 0 0] 41)→W.heap[g3]? =some (.cells #[.int .i64 0,.slice none 0 0] 41)→g+1 < g3→wpAny Tryz.prog .any oo q 4 (bL 8 71) (a_03 g3) W:=by
    intro W g3 HB HX HY HG hg4;simp only [a_03,a_0,a_,a0,Act.put,zZ,zY,zX];refine zqo 3 rfl ?_;refine zqL (.slice (some ⟨b,o,none⟩) ps.length c) rfl (.pointer (some ⟨g,1,none⟩)) (Q7l (bx2 HX).2.1) ?_;exact zqX (S013 W g3 HB HX HY HG hg4)
   have S12:∀ (W:World) (A9:Option Addr) (c9:Nat),Below w.heap.size w W→W.heap[g]? =some (.cells #[.int .i64 fmt,.slice (some ⟨b,o,none⟩) ps.length c] 41)→W.heap[g+1]? =some (.cells #[.int .i64 0,.slice none 0 0] 41)→OwnE 52 ptC 3 W w.heap.size (.slice A9 ps.length c9) ps→wpAny Tryz.prog .any oo q 4 (bL 8 29) (a_12 A9 c9) W:=by
    intro W A9 c9 HB HX HY HO;simp only [a_12,a_1,a_,a0,Act.put,zZ,zY,zX];refine zqt 1 6 rfl rfl ?_ ?_
    ·refine zqL (.int .i64 fmt) rfl (.pointer (some ⟨g,0,none⟩)) (O0 (bx2 HX).1) ?_;refine zzA 5 (.agg #[.int .i64 fmt,.slice A9 ps.length c9]) (some 140) rfl (fun _=>Q7c (.tmp 136) (.tmp 139) fmt A9 ps.length c9 rfl yZ yZ) ?_;exact zqX (S012 W A9 c9 HB HX HY HO)
    ·refine Q7 (U4 rfl) ?_;exact zqX (S123 (W.alloc (.cells #[.int .i64 0,.slice none 0 0] 41)) A9 c9 W.heap.size (HB.trans (((Below.refl W.heap.size W).alloc yQ _).mono HB.size)) (Q4 HX ((Below.refl W.heap.size W).alloc yQ _)) (Q4 HY ((Below.refl W.heap.size W).alloc yQ _)) (heap_alloc_new W _) (V2 HY) (Q6e HO ((Below.refl W.heap.size W).alloc yQ _)))
   have S13:∀ (W:World) (g3:Nat),Below w.heap.size w W→W.heap[g]? =some (.cells #[.int .i64 fmt,.slice (some ⟨b,o,none⟩) ps.length c] 41)→W.heap[g+1]? =some (.cells #[.int .i64 0,.slice none 0 0] 41)→W.heap[g3]? =some (.cells #[.int .i64 0,.slice none 0 0] 41)→g+1 < g3→wpAny Tryz.prog .any oo q 4 (bL 8 77) (a_13 g3) W:=by
    intro W g3 HB HX HY HG hg4;simp only [a_13,a_1,a_,a0,Act.put,zZ,zY,zX];refine zqt 1 4 rfl rfl ?_ ?_
    ·refine zqL (.int .i64 fmt) rfl (.pointer (some ⟨g,0,none⟩)) (O0 (bx2 HX).1) ?_;exact zqX (S013 W g3 HB HX HY HG hg4)
    ·refine Q0y (.slice (some ⟨b,o,none⟩) ps.length c) rfl Tryz.func72 (CLO.o W HB) ?_;rintro e W5 ⟨v9,rfl,ho,hb⟩;obtain ⟨A9,c9,rfl⟩:=Q0 ho;refine ⟨.slice A9 ps.length c9,rfl,?_⟩;exact zqX (S123 W5 A9 c9 g3 (HB.trans (hb.mono HB.size)) (Q4 HX hb) (Q4 HY hb) (Q4 HG hb) hg4 (Y7 ho HB.size))
   have S0:∀ (W:World),Below w.heap.size w W→W.heap[g]? =some (.cells #[.int .i64 fmt,.slice (some ⟨b,o,none⟩) ps.length c] 41)→W.heap[g+1]? =some (.cells #[.int .i64 0,.slice none 0 0] 41)→wpAny Tryz.prog .any oo q 5 (bL 8 7) a_0 W:=by
    intro W HB HX HY;simp only [a_0,a_,a0,Act.put,zZ,zY,zX];refine zqt 3 6 rfl rfl ?_ ?_
    ·refine zqL (.slice (some ⟨b,o,none⟩) ps.length c) rfl (.pointer (some ⟨g,1,none⟩)) (Q7l (bx2 HX).2.1) ?_;exact zqX (S01 W HB HX HY)
    ·refine Q7 (U4 rfl) ?_;exact zqX (S03 (W.alloc (.cells #[.int .i64 0,.slice none 0 0] 41)) W.heap.size (HB.trans (((Below.refl W.heap.size W).alloc yQ _).mono HB.size)) (Q4 HX ((Below.refl W.heap.size W).alloc yQ _)) (Q4 HY ((Below.refl W.heap.size W).alloc yQ _)) (heap_alloc_new W _) (V2 HY))
   have S1:∀ (W:World),Below w.heap.size w W→W.heap[g]? =some (.cells #[.int .i64 fmt,.slice (some ⟨b,o,none⟩) ps.length c] 41)→W.heap[g+1]? =some (.cells #[.int .i64 0,.slice none 0 0] 41)→wpAny Tryz.prog .any oo q 5 (bL 8 13) a_1 W:=by
    intro W HB HX HY;simp only [a_1,a_,a0,Act.put,zZ,zY,zX];refine zqh 1 4 6 rfl rfl rfl ?_ ?_ ?_
    ·refine zqL (.int .i64 fmt) rfl (.pointer (some ⟨g,0,none⟩)) (O0 (bx2 HX).1) ?_;exact zqX (S01 W HB HX HY)
    ·refine Q0y (.slice (some ⟨b,o,none⟩) ps.length c) rfl Tryz.func72 (CLO.o W HB) ?_;rintro e W5 ⟨v9,rfl,ho,hb⟩;obtain ⟨A9,c9,rfl⟩:=Q0 ho;refine ⟨.slice A9 ps.length c9,rfl,?_⟩;exact zqX (S12 W5 A9 c9 (HB.trans (hb.mono HB.size)) (Q4 HX hb) (Q4 HY hb) (Y7 ho HB.size))
    ·refine Q7 (U4 rfl) ?_;exact zqX (S13 (W.alloc (.cells #[.int .i64 0,.slice none 0 0] 41)) W.heap.size (HB.trans (((Below.refl W.heap.size W).alloc yQ _).mono HB.size)) (Q4 HX ((Below.refl W.heap.size W).alloc yQ _)) (Q4 HY ((Below.refl W.heap.size W).alloc yQ _)) (heap_alloc_new W _) (V2 HY))
   have S3:∀ (W:World) (g3:Nat),Below w.heap.size w W→W.heap[g]? =some (.cells #[.int .i64 fmt,.slice (some ⟨b,o,none⟩) ps.length c] 41)→W.heap[g+1]? =some (.cells #[.int .i64 0,.slice none 0 0] 41)→W.heap[g3]? =some (.cells #[.int .i64 0,.slice none 0 0] 41)→g+1 < g3→wpAny Tryz.prog .any oo q 5 (bL 8 69) (a_3 g3) W:=by
    intro W g3 HB HX HY HG hg4;simp only [a_3,a_,a0,Act.put,zZ,zY,zX];refine zqt 1 3 rfl rfl ?_ ?_
    ·refine zqL (.int .i64 fmt) rfl (.pointer (some ⟨g,0,none⟩)) (O0 (bx2 HX).1) ?_;exact zqX (S03 W g3 HB HX HY HG hg4)
    ·refine zqL (.slice (some ⟨b,o,none⟩) ps.length c) rfl (.pointer (some ⟨g,1,none⟩)) (Q7l (bx2 HX).2.1) ?_;exact zqX (S13 W g3 HB HX HY HG hg4)
   have S:∀ (W:World),Below w.heap.size w W→W.heap[g]? =some (.cells #[.int .i64 fmt,.slice (some ⟨b,o,none⟩) ps.length c] 41)→W.heap[g+1]? =some (.cells #[.int .i64 0,.slice none 0 0] 41)→wpAny Tryz.prog .any oo q 8 (bL 8 0) a0 W:=by
    intro W HB HX HY;simp only [a0,Act.put,zZ,zY,zX];refine zqF 0 135 (.pointer (some ⟨g,0,none⟩)) rfl rfl (.pointer (some ⟨g,0,none⟩)) ?_;refine zqF 2 137 (.pointer (some ⟨g,1,none⟩)) rfl rfl (.pointer (some ⟨g,0,none⟩)) ?_;simp only [Act.put,zZ,zY,zX];refine zqh 1 3 6 rfl rfl rfl ?_ ?_ ?_
    ·refine zqL (.int .i64 fmt) rfl (.pointer (some ⟨g,0,none⟩)) (O0 (bx2 HX).1) ?_;exact zqX (S0 W HB HX HY)
    ·refine zqL (.slice (some ⟨b,o,none⟩) ps.length c) rfl (.pointer (some ⟨g,1,none⟩)) (Q7l (bx2 HX).2.1) ?_;exact zqX (S1 W HB HX HY)
    ·refine Q7 (U4 rfl) ?_;exact zqX (S3 (W.alloc (.cells #[.int .i64 0,.slice none 0 0] 41)) W.heap.size (HB.trans (((Below.refl W.heap.size W).alloc yQ _).mono HB.size)) (Q4 HX ((Below.refl W.heap.size W).alloc yQ _)) (Q4 HY ((Below.refl W.heap.size W).alloc yQ _)) (heap_alloc_new W _) (V2 HY))
   exact S _ hq.o hw.o hG.o
def Y3h (w:World) (rs:List Ru) (e:Ending) (w':World):Prop:=∃ v,e=.returned v∧RdRu w' v rs∧Below w.heap.size w w'
def atE (m:Int) (b:Bool):Array Value:=#[.int .u8 0,.int .u8 0,.int .u8 0,.int .u8 0,.int .u8 0,.int .u8 0,.int .u8 0,.int .u8 0,.int .u8 0,.int .u8 0,.int .u8 0,.int .u8 0,.int .u8 0,.int .u8 0,.int .u8 0,.int .u8 0,.int .u8 0,.int .u8 0,.int .u8 0,.int .u8 0,.int .u8 0,.int .u8 0,.int .u8 0,.int .u8 0,.int .u8 0,.int .u8 0,.int .u8 0,.int .u8 0,.int .u8 0,.int .u8 0,.int .u8 0,.int .u8 0,.int .i64 m,.bool b]
theorem AtIn.lt {w:World} {g:Nat} {x:At} (h:AtIn w g x):g < w.heap.size:=(Array.getElem?_eq_some_iff.1 h).1
theorem AtIn.setSet {w:World} {g:Nat} {p:Nat→Bool} {mn:Int} {many:Bool} (h:AtIn w g ⟨p,mn,many⟩) (q:Nat→Bool) (k:Nat) (hk:k < 32) (hq:∀ i,i < 32→i≠k→F8 q i=F8 p i):AtIn (w.setCell ⟨g,k,none⟩ (.int .u8 (F8 q k:Nat))) g ⟨q,mn,many⟩:=by
 unfold AtIn at *;rw [heap_setCell_same w g k _ _ _ h];congr 2;have h1:=V1l p q k hk hq;rw [List.setIfInBounds_toArray] at h1 ⊢;have h2:(X7l p).set k (.int .u8 (F8 q k:Nat))=X7l q:=(by simpa using h1);unfold atC;rw [List.set_append_left _ _ (by rw [F3];exact hk),h2]
def Z8h:Nat→Bool:=V6t noP 46
def X7t:Nat→Bool:=V6t Z8h 33
def Z6w:Nat→Bool:=V6t noP 32
def I1:Ru:=⟨true,[⟨X7t,1,false⟩],[⟨Z6w,1,false⟩]⟩
theorem Z8i:∀ i,i < 32→i≠5→F8 Z8h i=F8 noP i:=yX
theorem Z6z:∀ i,i < 32→i≠4→F8 X7t i=F8 Z8h i:=yX
theorem V1o:∀ i,i < 32→i≠4→F8 Z6w i=F8 noP i:=yX
theorem V8o (w:World):AtIn ((w.alloc (.cells (atE 0 false) 107)).alloc (.cells (atE 0 false) 107)) (w.heap.size+1) ⟨noP,0,false⟩:=by
 have h:=X4h (w.alloc (.cells (atE 0 false) 107));rw [show (w.alloc (.cells (atE 0 false) 107)).heap.size=w.heap.size+1 from Array.size_push ..] at h;exact h
theorem V8p (w:World):AtIn ((w.alloc (.cells (atE 0 false) 107)).alloc (.cells (atE 0 false) 107)) w.heap.size ⟨noP,0,false⟩:=
 (X4h w).keep (Below.heap_alloc _ _ _ (by show w.heap.size < (w.heap.push _).size;rw [Array.size_push];omega))
theorem Y7e (w:World):Calls Tryz.prog 19 #[] w (Y3h w [I1]):=by
 obtain ⟨R,hu⟩:∃ R,yK (R=Y3h w [I1]):=⟨_,rfl⟩;rw [←hu.o];have ha:=zW (V8o w);have hb:=zW (V8p w);have hf:yK (Below w.heap.size w ((w.alloc (.cells #[.int .u8 0,.int .u8 0,.int .u8 0,.int .u8 0,.int .u8 0,.int .u8 0,.int .u8 0,.int .u8 0,.int .u8 0,.int .u8 0,.int .u8 0,.int .u8 0,.int .u8 0,.int .u8 0,.int .u8 0,.int .u8 0,.int .u8 0,.int .u8 0,.int .u8 0,.int .u8 0,.int .u8 0,.int .u8 0,.int .u8 0,.int .u8 0,.int .u8 0,.int .u8 0,.int .u8 0,.int .u8 0,.int .u8 0,.int .u8 0,.int .u8 0,.int .u8 0,.int .i64 0,.bool false] 107)).alloc (.cells #[.int .u8 0,.int .u8 0,.int .u8 0,.int .u8 0,.int .u8 0,.int .u8 0,.int .u8 0,.int .u8 0,.int .u8 0,.int .u8 0,.int .u8 0,.int .u8 0,.int .u8 0,.int .u8 0,.int .u8 0,.int .u8 0,.int .u8 0,.int .u8 0,.int .u8 0,.int .u8 0,.int .u8 0,.int .u8 0,.int .u8 0,.int .u8 0,.int .u8 0,.int .u8 0,.int .u8 0,.int .u8 0,.int .u8 0,.int .u8 0,.int .u8 0,.int .u8 0,.int .i64 0,.bool false] 107))):=zW (((Below.refl _ w).alloc yQ _).alloc (by rw [show (w.alloc (.cells #[.int .u8 0,.int .u8 0,.int .u8 0,.int .u8 0,.int .u8 0,.int .u8 0,.int .u8 0,.int .u8 0,.int .u8 0,.int .u8 0,.int .u8 0,.int .u8 0,.int .u8 0,.int .u8 0,.int .u8 0,.int .u8 0,.int .u8 0,.int .u8 0,.int .u8 0,.int .u8 0,.int .u8 0,.int .u8 0,.int .u8 0,.int .u8 0,.int .u8 0,.int .u8 0,.int .u8 0,.int .u8 0,.int .u8 0,.int .u8 0,.int .u8 0,.int .u8 0,.int .i64 0,.bool false] 107)).heap.size=w.heap.size+1 from Array.size_push ..];omega) _);change yK (AtIn ((w.alloc (.cells #[.int .u8 0,.int .u8 0,.int .u8 0,.int .u8 0,.int .u8 0,.int .u8 0,.int .u8 0,.int .u8 0,.int .u8 0,.int .u8 0,.int .u8 0,.int .u8 0,.int .u8 0,.int .u8 0,.int .u8 0,.int .u8 0,.int .u8 0,.int .u8 0,.int .u8 0,.int .u8 0,.int .u8 0,.int .u8 0,.int .u8 0,.int .u8 0,.int .u8 0,.int .u8 0,.int .u8 0,.int .u8 0,.int .u8 0,.int .u8 0,.int .u8 0,.int .u8 0,.int .i64 0,.bool false] 107)).alloc (.cells #[.int .u8 0,.int .u8 0,.int .u8 0,.int .u8 0,.int .u8 0,.int .u8 0,.int .u8 0,.int .u8 0,.int .u8 0,.int .u8 0,.int .u8 0,.int .u8 0,.int .u8 0,.int .u8 0,.int .u8 0,.int .u8 0,.int .u8 0,.int .u8 0,.int .u8 0,.int .u8 0,.int .u8 0,.int .u8 0,.int .u8 0,.int .u8 0,.int .u8 0,.int .u8 0,.int .u8 0,.int .u8 0,.int .u8 0,.int .u8 0,.int .u8 0,.int .u8 0,.int .i64 0,.bool false] 107)) (w.heap.size+1) ⟨noP,0,false⟩) at ha
 change yK (AtIn ((w.alloc (.cells #[.int .u8 0,.int .u8 0,.int .u8 0,.int .u8 0,.int .u8 0,.int .u8 0,.int .u8 0,.int .u8 0,.int .u8 0,.int .u8 0,.int .u8 0,.int .u8 0,.int .u8 0,.int .u8 0,.int .u8 0,.int .u8 0,.int .u8 0,.int .u8 0,.int .u8 0,.int .u8 0,.int .u8 0,.int .u8 0,.int .u8 0,.int .u8 0,.int .u8 0,.int .u8 0,.int .u8 0,.int .u8 0,.int .u8 0,.int .u8 0,.int .u8 0,.int .u8 0,.int .i64 0,.bool false] 107)).alloc (.cells #[.int .u8 0,.int .u8 0,.int .u8 0,.int .u8 0,.int .u8 0,.int .u8 0,.int .u8 0,.int .u8 0,.int .u8 0,.int .u8 0,.int .u8 0,.int .u8 0,.int .u8 0,.int .u8 0,.int .u8 0,.int .u8 0,.int .u8 0,.int .u8 0,.int .u8 0,.int .u8 0,.int .u8 0,.int .u8 0,.int .u8 0,.int .u8 0,.int .u8 0,.int .u8 0,.int .u8 0,.int .u8 0,.int .u8 0,.int .u8 0,.int .u8 0,.int .u8 0,.int .i64 0,.bool false] 107)) w.heap.size ⟨noP,0,false⟩) at hb
 go_enter Tryz.func19,Tryz.ntmps19
 go_upto_region 2 with fail
 generalize ((w.alloc (.cells #[.int .u8 0,.int .u8 0,.int .u8 0,.int .u8 0,.int .u8 0,.int .u8 0,.int .u8 0,.int .u8 0,.int .u8 0,.int .u8 0,.int .u8 0,.int .u8 0,.int .u8 0,.int .u8 0,.int .u8 0,.int .u8 0,.int .u8 0,.int .u8 0,.int .u8 0,.int .u8 0,.int .u8 0,.int .u8 0,.int .u8 0,.int .u8 0,.int .u8 0,.int .u8 0,.int .u8 0,.int .u8 0,.int .u8 0,.int .u8 0,.int .u8 0,.int .u8 0,.int .i64 0,.bool false] 107)).alloc (.cells #[.int .u8 0,.int .u8 0,.int .u8 0,.int .u8 0,.int .u8 0,.int .u8 0,.int .u8 0,.int .u8 0,.int .u8 0,.int .u8 0,.int .u8 0,.int .u8 0,.int .u8 0,.int .u8 0,.int .u8 0,.int .u8 0,.int .u8 0,.int .u8 0,.int .u8 0,.int .u8 0,.int .u8 0,.int .u8 0,.int .u8 0,.int .u8 0,.int .u8 0,.int .u8 0,.int .u8 0,.int .u8 0,.int .u8 0,.int .u8 0,.int .u8 0,.int .u8 0,.int .i64 0,.bool false] 107))=w2 at ha hb hf ⊢;generalize hg1:w.heap.size=g1 at ha hb hf ⊢;have hg:=zW hg1;clear hg1;obtain ⟨g2,hw⟩:∃ g2,yK (g1+1=g2):=⟨_,rfl⟩;rw [hw.o] at ha ⊢;have hG:g1 < g2:=(by have:=hw.o;omega);have q1:=hb.o.mn;have q2:=hb.o.free 32;have q3:=ha.o.mn;have q4:=ha.o.free 32;go_upto_region 3 with fail
 have hc:yK (AtIn ((w2.setCell ⟨g1,32,none⟩ (.int .i64 1)).setCell ⟨g2,32,none⟩ (.int .i64 1)) g1 ⟨noP,1,false⟩):=zW ((hb.o.setMn 1).keep (heap_setCell_other _ _ _ _ (by show g1≠g2;omega)));have hp:yK (AtIn ((w2.setCell ⟨g1,32,none⟩ (.int .i64 1)).setCell ⟨g2,32,none⟩ (.int .i64 1)) g2 ⟨noP,1,false⟩):=zW (AtIn.setMn (ha.o.keep (heap_setCell_other _ _ _ _ (by show g2≠g1;omega))) 1);have hj:=zW ((hf.o.setCell (p:=⟨g1,32,none⟩) yQ (.int .i64 1)).setCell (p:=⟨g2,32,none⟩) (by show _≤g2;omega) (.int .i64 1));generalize (w2.setCell ⟨g1,32,none⟩ (.int .i64 1)).setCell ⟨g2,32,none⟩ (.int .i64 1)=w3 at hc hp hj ⊢;clear q1 q2 q3 q4 hb ha hf;have q1:w3.cell? ⟨g1,5,none⟩=some (.int .u8 0):=hc.o.range 5 _ (by rfl);have q2:=hc.o.free 5;go_upto_region 4 with fail
 have hd:yK (AtIn (w3.setCell ⟨g1,5,none⟩ (.int .u8 (bits BinOp.or .u8 0 64))) g1 ⟨Z8h,1,false⟩):=zW (hc.o.setSet Z8h 5 yX Z8i);have hq:yK (AtIn (w3.setCell ⟨g1,5,none⟩ (.int .u8 (bits BinOp.or .u8 0 64))) g2 ⟨noP,1,false⟩):=zW (hp.o.keep (heap_setCell_other _ _ _ _ (by show g2≠g1;omega)));have hk:=zW (hj.o.setCell (p:=⟨g1,5,none⟩) yQ (.int .u8 (bits BinOp.or .u8 0 64)));generalize w3.setCell ⟨g1,5,none⟩ (.int .u8 (bits BinOp.or .u8 0 64))=w4 at hd hq hk ⊢;clear q1 q2 hc hp hj;have q1:w4.cell? ⟨g1,4,none⟩=some (.int .u8 0):=hd.o.range 4 _ (by rfl);have q2:=hd.o.free 4;go_upto_region 5 with fail
 have hn:yK (AtIn (w4.setCell ⟨g1,4,none⟩ (.int .u8 (bits BinOp.or .u8 0 2))) g1 ⟨X7t,1,false⟩):=zW (hd.o.setSet X7t 4 yX Z6z);have he:yK (AtIn (w4.setCell ⟨g1,4,none⟩ (.int .u8 (bits BinOp.or .u8 0 2))) g2 ⟨noP,1,false⟩):=zW (hq.o.keep (heap_setCell_other _ _ _ _ (by show g2≠g1;omega)));have hl:=zW (hk.o.setCell (p:=⟨g1,4,none⟩) yQ (.int .u8 (bits BinOp.or .u8 0 2)));generalize w4.setCell ⟨g1,4,none⟩ (.int .u8 (bits BinOp.or .u8 0 2))=w5 at hn he hl ⊢;clear q1 q2 hd hq hk;have q1:w5.cell? ⟨g2,4,none⟩=some (.int .u8 0):=he.o.range 4 _ (by rfl);have q2:=he.o.free 4;go_upto_region 6 with fail
 have hh:yK (AtIn (w5.setCell ⟨g2,4,none⟩ (.int .u8 (bits BinOp.or .u8 0 1))) g2 ⟨Z6w,1,false⟩):=zW (he.o.setSet Z6w 4 yX V1o);have ho:yK (AtIn (w5.setCell ⟨g2,4,none⟩ (.int .u8 (bits BinOp.or .u8 0 1))) g1 ⟨X7t,1,false⟩):=zW (hn.o.keep (heap_setCell_other _ _ _ _ (by show g1≠g2;omega)));have hm:=zW (hl.o.setCell (p:=⟨g2,4,none⟩) (by show _≤g2;omega) (.int .u8 (bits BinOp.or .u8 0 1)));generalize w5.setCell ⟨g2,4,none⟩ (.int .u8 (bits BinOp.or .u8 0 1))=w6 at ho hh hm ⊢;clear q1 q2 hn he hl;obtain ⟨sa,hA⟩:∃ sa:At,yK (sa=⟨X7t,1,false⟩):=⟨⟨X7t,1,false⟩,rfl⟩;obtain ⟨ta,hB⟩:∃ ta:At,yK (ta=⟨Z6w,1,false⟩):=⟨⟨Z6w,1,false⟩,rfl⟩;rw [←hA.o] at ho;rw [←hB.o] at hh;have hE:=zW (hh.o.keep (Below.heap_alloc w6 (.cells (atC sa).toArray 107) g2 hh.o.lt));have hs:=(hm.o.alloc (by have:=hm.o.size;have:=hg.o;omega) (.cells (atC sa).toArray 107));have hv:=hs.alloc (by have:=hs.size;have:=hg.o;omega) (.cells (atC ta).toArray 107);have e7:(w6.alloc (.cells (atC sa).toArray 107)).heap.size=w6.heap.size+1:=yW;have hy:=((Z6 atC 34 E3 w6 w6.heap.size rfl sa 107).alloc (.cells (atC ta).toArray 107));have hz:=Z6 atC 34 E3 (w6.alloc (.cells (atC sa).toArray 107)) (w6.heap.size+1) e7 ta 107;have hC:=zW hy;have hD:=zW hz;have ht:=zW hv;clear hy hz hv hs e7;go_wp2_with (first
  | (refine wpList_load_row rfl 107 (.tmp 1) rfl g1 rfl 107 (atC sa).toArray (0,0) _ ho.o Tryz.underlying107 rfl (by rw [Q3g,Q9p]) ?_;refine Q5j rfl (.tmp 23) (by rfl) sa (by rfl) ?_)
  | (refine wpList_load_row rfl 107 (.tmp 2) rfl g2 rfl 107 (atC ta).toArray (0,0) _ hE.o Tryz.underlying107 rfl (by rw [Q3g,Q9p]) ?_;refine Q5j rfl (.tmp 25) (by rfl) ta (by rfl) ?_))
 rw [hu.o];have e8:((w6.alloc (.cells (atC sa).toArray 107)).alloc (.cells (atC ta).toArray 107)).heap.size=w6.heap.size+1+1:=yW;have hF:=Z6 ruC 3 V5o ((w6.alloc (.cells (atC sa).toArray 107)).alloc (.cells (atC ta).toArray 107)) (w6.heap.size+1+1) e8 (RuV.mk true ⟨some ⟨w6.heap.size,0,none⟩,1,1⟩ ⟨some ⟨w6.heap.size+1,0,none⟩,1,1⟩) 110;refine ⟨.slice (some ⟨w6.heap.size+1+1,0,none⟩) 1 1,rfl,⟨_,hF,rfl,fun i x r hx hr=>?_⟩,?_⟩
 ·have hi:i=0:=(by have:=(List.getElem?_eq_some_iff.1 hx).1;simpa using this);subst hi;obtain rfl:=Option.some.inj hx;obtain rfl:=Option.some.inj hr;refine ⟨rfl,?_,?_⟩
  ·have h:=hC.o.alloc (.cells (ruC (RuV.mk true ⟨some ⟨w6.heap.size,0,none⟩,1,1⟩ ⟨some ⟨w6.heap.size+1,0,none⟩,1,1⟩)).toArray 110);have e:I1.bf=[sa]:=(by rw [hA.o];rfl);show RdE atC 34 _ _ I1.bf;rw [e];exact h
  ·have h:=hD.o.alloc (.cells (ruC (RuV.mk true ⟨some ⟨w6.heap.size,0,none⟩,1,1⟩ ⟨some ⟨w6.heap.size+1,0,none⟩,1,1⟩)).toArray 110);have e:I1.af=[ta]:=(by rw [hB.o];rfl);show RdE atC 34 _ _ I1.af;rw [e];exact h
 ·rw [hg.o];exact ht.o.alloc (by have:=ht.o.size;have:=hg.o;omega) _
end Go.Proofs.YtfkojnofbpdjdaaGreatDoor
namespace Go.Proofs.YtfkojnofbpdjdaaGreatDoor
def wB:List UInt8:=[98]
def Q4o:Els:=[([83],some (chI 83)),([97],some (chI 97)),([118],some (chI 118)),([101],some (chI 101)),([46],some (chI 46)),([32],some (chI 32)),([60,98,62],some ⟨2,ofL wB,1⟩),([82],some (chI 82)),([101],some (chI 101)),([100],some (chI 100)),([60,47,98,62],some ⟨3,ofL wB,1⟩),([32],some (chI 32)),([99],some (chI 99)),([97],some (chI 97)),([114],some (chI 114)),([33],some (chI 33))]
theorem Q7j:RawOk 1 Q4o:=by
 refine ⟨fun e he=>?_,Q6z _ fun e he=>?_,?_,yX⟩
 ·simp only [Q4o,List.mem_cons,List.not_mem_nil,or_false] at he;rcases he with rfl | rfl | rfl | rfl | rfl | rfl | rfl | rfl | rfl | rfl | rfl | rfl | rfl | rfl | rfl | rfl
  all_goals first
   | exact ElOk.ch1 _ yX
   | exact ElOk.opn wB 1 yX yX
   | exact ElOk.cls wB 1 yX yX
 ·simp only [Q4o,List.mem_cons,List.not_mem_nil,or_false] at he;rcases he with rfl | rfl | rfl | rfl | rfl | rfl | rfl | rfl | rfl | rfl | rfl | rfl | rfl | rfl | rfl | rfl
  all_goals exact fun h=>by cases h
 ·show NumOk [chI 83,chI 97,chI 118,chI 101,chI 46,chI 32,⟨2,ofL wB,1⟩,chI 82,chI 101,chI 100,⟨3,ofL wB,1⟩,chI 32,chI 99,chI 97,chI 114,chI 33] 0 [];simp [NumOk,chI];exact ⟨_,[],⟨rfl,rfl⟩,rfl,rfl,rfl⟩
def knF:List Tk:=[⟨1,⟨#[83,97,118,101,46,32]⟩,0⟩,⟨2,ofL wB,1⟩,⟨1,⟨#[82,101,100]⟩,0⟩,⟨3,ofL wB,1⟩,⟨1,⟨#[32,99,97,114,33]⟩,0⟩]
theorem Z9r:X1 Q4o=Y2 knF:=rfl
theorem Z5c:Normal knF:=by
 have t:∀ (b:ByteArray) (l:List Tk),b.size≠0→(∀ y,l.head? =some y→y.k≠1)→Normal l→Normal (⟨1,b,0⟩::l):=fun b l h1 h2 h3=>⟨fun _=>⟨h1,rfl,h2⟩,h3⟩;have o:∀ (x:Tk) (l:List Tk),x.k≠1→Normal l→Normal (x::l):=fun x l h1 h3=>⟨fun h=>absurd h h1,h3⟩;unfold knF;refine t _ _ yX (fun y hy=>?_) (o _ _ (by show (2:Int)≠1;decide) (t _ _ yX (fun y hy=>?_) (o _ _ (by show (3:Int)≠1;decide) (t _ _ yX (fun y hy=>?_) trivial))))
 ·injection hy with hy;rw [←hy];show (2:Int)≠1;decide
 ·injection hy with hy;rw [←hy];show (3:Int)≠1;decide
 ·cases hy
theorem V4e:Q9 (X1 Q4o)=knF:=by rw [Z9r,X3s _ Z5c]
theorem Z5d:H6 [I1] knF=[(0,5),(6,16)]:=by decide+kernel
def knG:List Tk:=[⟨1,⟨#[83,105,99,104,101,114,110,46]⟩,0⟩]
def Q5x:Els:=F6 Q4o 0 [(0,5)] [tsF 1 knG]
theorem X9v:∀ x∈knG,V5 x:=fun x hx=>Or.inl (by rw [List.mem_singleton.1 hx])
theorem X6e:Normal knG:=⟨fun _=>⟨yX,rfl,fun y hy=>by cases hy⟩,trivial⟩
theorem V4c:ValF knG:=Z5z knG X6e X9v yX
theorem Y5c:Q5x=[([83],some (chI 83)),([105],some (chI 105)),([99],some (chI 99)),([104],some (chI 104)),([101],some (chI 101)),([114],some (chI 114)),([110],some (chI 110)),([46],some (chI 46)),([32],some (chI 32)),([60,98,62],some ⟨2,ofL wB,1⟩),([82],some (chI 82)),([101],some (chI 101)),([100],some (chI 100)),([60,47,98,62],some ⟨3,ofL wB,1⟩),([32],some (chI 32)),([99],some (chI 99)),([97],some (chI 97)),([114],some (chI 114)),([33],some (chI 33))]:=rfl
theorem Q3m:RawOk 1 Q5x:=by
 rw [Y5c];refine ⟨fun e he=>?_,Q6z _ fun e he=>?_,?_,yX⟩
 ·simp only [List.mem_cons,List.not_mem_nil,or_false] at he;rcases he with rfl | rfl | rfl | rfl | rfl | rfl | rfl | rfl | rfl | rfl | rfl | rfl | rfl | rfl | rfl | rfl | rfl | rfl | rfl
  all_goals first
   | exact ElOk.ch1 _ yX
   | exact ElOk.opn wB 1 yX yX
   | exact ElOk.cls wB 1 yX yX
 ·simp only [List.mem_cons,List.not_mem_nil,or_false] at he;rcases he with rfl | rfl | rfl | rfl | rfl | rfl | rfl | rfl | rfl | rfl | rfl | rfl | rfl | rfl | rfl | rfl | rfl | rfl | rfl
  all_goals exact fun h=>by cases h
 ·show NumOk [chI 83,chI 105,chI 99,chI 104,chI 101,chI 114,chI 110,chI 46,chI 32,⟨2,ofL wB,1⟩,chI 82,chI 101,chI 100,⟨3,ofL wB,1⟩,chI 32,chI 99,chI 97,chI 114,chI 33] 0 [];simp [NumOk,chI];exact ⟨_,[],⟨rfl,rfl⟩,rfl,rfl,rfl⟩
theorem Y5d:Q2 Q4o=[83,97,118,101,46,32,60,98,62,82,101,100,60,47,98,62,32,99,97,114,33]:=yX
theorem X2k:Q2 Q5x=[83,105,99,104,101,114,110,46,32,60,98,62,82,101,100,60,47,98,62,32,99,97,114,33]:=by rw [Y5c];decide
end Go.Proofs.YtfkojnofbpdjdaaGreatDoor
namespace Go.Proofs.YtfkojnofbpdjdaaGreatDoor
open Go.RowKit
theorem Y5r (P:Tk→Prop) (h1:∀ x:Tk,x.k=1→P x) (f:List Tk) (h:∀ y∈f,P y):∀ y∈Q9 f,P y:=by
 suffices hh:∀ (g out:List Tk),(∀ y∈g,P y)→(∀ y∈out,P y)→∀ y∈g.foldl X3 out,P y from hh f [] h (fun y hy=>by simp at hy)
 intro g;induction g with
 | nil=>intro out _ h2;exact h2
 | cons x g ih=>
   intro out hg ho;refine ih _ (fun y hy=>hg y (by simp [hy])) ?_;intro z hz;by_cases hk:x.k=1
   ·by_cases h2:x.t.size=0
    ·rw [G1 out x hk h2] at hz;exact ho z hz
    ·rcases List.eq_nil_or_concat out with rfl | ⟨o,y,rfl⟩
     ·rw [V7 x hk h2] at hz;rw [List.mem_singleton.1 hz];exact h1 _ rfl
     ·rw [List.concat_eq_append] at ho hz;by_cases hy:y.k=1
      ·rw [J3 o y x hk h2 hy] at hz;rcases List.mem_append.1 hz with hz | hz
       ·exact ho z (List.mem_append.2 (.inl hz))
       ·rw [List.mem_singleton.1 hz];exact h1 _ rfl
      ·rw [D1 o y x hk h2 hy] at hz;rcases List.mem_append.1 hz with hz | hz
       ·exact ho z hz
       ·rw [List.mem_singleton.1 hz];exact h1 _ rfl
   ·rw [K6 out x hk] at hz;rcases List.mem_append.1 hz with hz | hz
    ·exact ho z hz
    ·rw [List.mem_singleton.1 hz];exact hg x yW
def Y8y:List MK:=[.blk wP (Lib.decDigits 1) Q4o]
def S7:List Pt:=B8 (Y5 Y8y).1 (Y5 Y8y).2
def X0j:List Pt:=S7.set 1 ⟨true,ofL (Lib.decDigits 1),ofL (Q2 Q5x)⟩
theorem Y5b:S7.length=3:=rfl
theorem V7h:S7[1]'yX=⟨true,ofL (Lib.decDigits 1),ofL (Q2 Q4o)⟩:=rfl
theorem V4d:∀ x∈Y8y,X8f x:=by
 intro x hx;rw [List.mem_singleton.1 hx];exact ⟨yX,yX,Q7j⟩
theorem Z9p:R4 0 Y8y:=⟨rfl,yX,trivial⟩
theorem Z4a (us:List Un) (tl:List UInt8):Z0 (B8 us tl)=P3 us tl:=Q7r us tl
theorem Y1t:Z0 S7=X5 Y8y:=by
 unfold S7;rw [Z4a,Q5a];rfl
theorem Y1s:X5 Y8y=[60,112,62,83,97,118,101,46,32,60,98,62,82,101,100,60,47,98,62,32,99,97,114,33,60,47,112,62]:=yX
theorem X6f:Z0 X0j=[60,112,62,83,105,99,104,101,114,110,46,32,60,98,62,82,101,100,60,47,98,62,32,99,97,114,33,60,47,112,62]:=by
 show Z0 [⟨false,ofL [],ofL ([]++(60::wP++[62]))⟩,⟨true,ofL (Lib.decDigits 1),ofL (Q2 Q5x)⟩,⟨false,ofL [],ofL (G6 wP)⟩]=_;rw [X2k];decide
def V9l:List Int:=csE Q4o++[((Q2 Q4o).length:Int)]
theorem V7j:∀ p,p < 17→V9l[p]? =some ((Q2 (Z9 Q4o p)).length:Int):=yX
theorem Y8z:(X1 Q4o).length=16:=yX
theorem V7i:Y0y 0 [(0,5)] 16:=⟨yX,yX,yX,trivial⟩
theorem Z9s:Rdb 1 (ofL (Q2 Q4o)) Q4o:=⟨by simp [ofL],Q7j.els,Q7j.len,by rw [Q6,Y5d];decide⟩
theorem V4f:Rdb 1 (ofL (Q2 Q5x)) Q5x:=⟨by simp [ofL],Q3m.els,Q3m.len,by rw [Q6,X2k];decide⟩
theorem Z1q (fmt:Int) (r:List UInt8) (o:Option Tk) (h:ElOk fmt r o):∀ x,o=some x→(x.k=1∨x.k=5)∨(x.k=2∨x.k=3∨x.k=4):=by
 intro x hx;cases h<;>first
  | (injection hx with hx;subst hx;simp [chI])
  | cases hx
theorem X6a (fmt:Int):∀ (ts:Els),(∀ e∈ts,ElOk fmt e.1 e.2)→∀ x∈X1 ts,(x.k=1∨x.k=5)∨(x.k=2∨x.k=3∨x.k=4)
 | [],_,x,hx=>by simp [X1] at hx
 | (r,none)::ts,h,x,hx=>X6a fmt ts (fun e he=>h e (by simp [he])) x hx
 | (r,some y)::ts,h,x,hx=>by
   rw [show X1 ((r,some y)::ts)=y::X1 ts from rfl] at hx;rcases List.mem_cons.1 hx with rfl | hx
   ·exact Z1q fmt r _ (h (r,some x) yW) x rfl
   ·exact X6a fmt ts (fun e he=>h e (by simp [he])) x hx
theorem Z2y (fmt:Int) (ts:Els) (h:RawOk fmt ts):∃ n,J2 (Q9 (X1 ts)) []=Q1c n∧n≤500∧∀ x∈Q9 (X1 ts),KindT n x:=by
 obtain ⟨h1,h2,_⟩:=L6 (X1 ts) 0 [] h.num (fun y hy=>by simp at hy);refine ⟨(O9 (X1 ts) 0 []).1,by rw [Y9h];exact h1,?_,Y5r _ (fun x hx=>.inl (.inl hx)) _ fun y hy=>?_⟩
 ·have:=Q7o (X1 ts) [];have h3:=h.len;rw [show J2 (X1 ts) []=Q1c (O9 (X1 ts) 0 []).1 from h1,Q0j] at this;simp at this;omega
 ·rcases X6a fmt ts h.els y hy with hk | hk
  ·exact .inl hk
  ·exact .inr ⟨hk,h2 y hy hk⟩
theorem Z2k (ts:Els) (h:RawOk 1 ts):Y2 (X1 ts)=X1 ts:=Q7d _ fun y hy=>Q2s 1 ts h.els y hy
theorem Z9t (m:Int):X8u m 1 (ofL (Z0 S7)) S7:=fun w hm=>by
 rw [Y1t];exact X3q _ Y8y m w hm (by simp [ofL]) V4d Z9p (by rw [Q6,Y1s];decide)
theorem V7k (m:Int):∃ n,RplOk m 1 S7 1 Q4o V9l [(0,5)] [knG] n:=by
 obtain ⟨n,kn_num,hn,kn_knd⟩:=Z2y 1 Q5x Q3m;exact ⟨n,{
  fm:=.inl rfl
  len:=yX
  size:=by rw [Y1t,Y1s];decide
  spl:=Z9t m
  kl:=yX
  un:=rfl
  raw:=rfl
  rsz:=by rw [Y5d];decide
  dec:=fun w hm=>Q1f _ Q4o m w hm Z9s Q7j.num
  one:=Z2k Q4o Q7j
  pos:=by rw [Y8z];decide
  cut:=fun w hm=>X6j _ Q4o m w hm Z9s Q7j.num
  csl:=yX
  cat:=fun p hp=>V7j p (by rw [Y8z] at hp;omega)
  rtl:=rfl
  rll:=yX
  asc:=by rw [Y8z];exact V7i
  tgn:=fun t ht=>by rw [List.mem_singleton.1 ht];exact X6e
  enc:=fun t ht=>by
   rw [List.mem_singleton.1 ht];exact fun A c w hm hr=>X0l knG _ m w hm hr V4c (X8q knG X9v)
  new:=fun w hm=>Q1f _ Q5x m w hm V4f Q3m.num
  none_:=Z2k Q5x Q3m
  npos:=Q3m.len
  nrsz:=by show (Q2 Q5x).length≤_;rw [X2k];decide
  num:=kn_num
  nle:=yY
  knd:=kn_knd
  nsz:=by
   show (Z0 X0j).length≤_;rw [X6f];decide }⟩
theorem Z7n:∀ (a:Nat) (rl:List (Nat×Nat)) (n:Nat),X4z a rl n→Y0y a rl n
 | _,[],_,_=>trivial
 | _,_::rl,n,⟨h1,h2,h3,h4⟩=>⟨h1,h2,h3,Z7n _ rl n h4⟩
theorem Q3t:∀ (us:List Un) (tl:List UInt8),(B8 us tl).length=2 * us.length+1
 | [],_=>rfl
 | u::us,tl=>by rw [B8,List.length_cons,List.length_cons,Q3t us tl,List.length_cons];omega
theorem X0x:∀ (us:List Un) (tl:List UInt8) (j:Nat) (hj:j < us.length),(B8 us tl)[2 * j+1]? =some ⟨true,ofL us[j].key,ofL (Q2 us[j].ts)⟩
 | [],_,_,hj=>by simp at hj
 | u::us,tl,0,_=>rfl
 | u::us,tl,j+1,hj=>by
   have:=X0x us tl j (by simpa using hj);rw [B8,show 2 * (j+1)+1=(2 * j+1)+1+1 by omega,List.getElem?_cons_succ,List.getElem?_cons_succ,this];rfl
theorem Y6f:∀ (us:List Un) (tl:List UInt8) (j:Nat) (hj:j < us.length) (ts':Els),(B8 us tl).set (2 * j+1) ⟨true,ofL us[j].key,ofL (Q2 ts')⟩=B8 (us.set j ⟨us[j].sk,us[j].key,ts'⟩) tl
 | [],_,_,hj,_=>by simp at hj
 | u::us,tl,0,_,_=>rfl
 | u::us,tl,j+1,hj,ts'=>by
   have:=Y6f us tl j (by simpa using hj) ts';rw [B8,show 2 * (j+1)+1=(2 * j+1)+1+1 by omega,List.set_cons_succ,List.set_cons_succ];have hj':j < us.length:=(by simpa using hj);have e:(u::us)[j+1]=us[j]'hj':=rfl;rw [e,this];rfl
theorem V2f:∀ (us:List Un) (tl:List UInt8) (i:Nat),K3 (B8 us tl) i=(List.range us.length).map fun (j:Nat)=>((i+(2 * j+1):Nat):Int)
 | [],_,_=>rfl
 | u::us,tl,i=>by
   rw [B8,K3,if_neg yW,K3,if_pos rfl,V2f us tl (i+1+1),List.length_cons,List.range_succ_eq_map,List.map_cons,List.map_map];congr 1;refine List.map_congr_left fun j _=>?_;show ((i+1+1+(2 * j+1):Nat):Int)=((i+(2 * (j+1)+1):Nat):Int);congr 1;omega
theorem DS.raws (d:DS) (h:d.Ok):∀ u∈d.un.1,RawOk d.fmt u.ts:=by
 cases d with
 | mk ms=>
   have key:∀ (ms:List MK) (st:List Un×List UInt8),(∀ x∈ms,X8f x)→(∀ u∈st.1,RawOk 1 u.ts)→∀ u∈(ms.foldl P1 st).1,RawOk 1 u.ts:=by
    intro ms;induction ms with
    | nil=>intro st _ h;exact h
    | cons x ms ih=>
      intro st hx hs;rw [List.foldl_cons];refine ih _ (fun y hy=>hx y (by simp [hy])) ?_;have h1:=hx x yW;cases x with
      | blk t key ts=>
        intro u hu;rcases List.mem_append.1 hu with hu | hu
        ·exact hs u hu
        ·rw [List.mem_singleton.1 hu];exact h1.2.2
      | byte c=>exact hs
      | note=>exact hs
      | tag t=>exact hs
   exact key ms ([],[]) h.1 (fun u hu=>by simp at hu)
 | rs ls=>
   have key:∀ (ls:List RL) (st:List Un×List UInt8),(∀ x∈ls,X8g x)→(∀ u∈st.1,RawOk 2 u.ts)→∀ u∈(ls.foldl L7 st).1,RawOk 2 u.ts:=by
    intro ls;induction ls with
    | nil=>intro st _ h;exact h
    | cons x ls ih=>
      intro st hx hs;rw [List.foldl_cons];refine ih _ (fun y hy=>hx y (by simp [hy])) ?_;have h1:=hx x yW;cases x with
      | unit key ts=>
        intro u hu;rcases List.mem_append.1 hu with hu | hu
        ·exact hs u hu
        ·rw [List.mem_singleton.1 hu];exact h1.2.2.2
      | skip l=>exact hs
   exact key ls ([],[]) h.1 (fun u hu=>by simp at hu)
 | sh a b rs=>
   have key:∀ (rs:List Rc) (st:List Un×List UInt8),(∀ x∈rs,RcF a b x)→(∀ u∈st.1,RawOk 3 u.ts)→∀ u∈(rs.foldl P2 st).1,RawOk 3 u.ts:=by
    intro rs;induction rs with
    | nil=>intro st _ h;exact h
    | cons x rs ih=>
      intro st hx hs;rw [List.foldl_cons];refine ih _ (fun y hy=>hx y (by simp [hy])) ?_;have h1:=hx x yW;intro u hu;rcases List.mem_append.1 hu with hu | hu
      ·exact hs u hu
      ·rw [List.mem_singleton.1 hu];exact h1.raw
   exact key rs ([],R2 a b) h.2.2.1 (fun u hu=>by simp at hu)
theorem V6y (us:List Un) (tl:List UInt8):Z0 (B8 us tl)=P3 us tl:=Q7r us tl
theorem Z2z (fmt:Int) (ts:Els) (h:RawOk fmt ts):Y2 (X1 ts)=X1 ts:=Q7d _ fun y hy=>Q2s fmt ts h.els y hy
theorem V0t (us:List Un) (tl:List UInt8) (u:Un) (h:u∈us):(Q2 u.ts).length≤(P3 us tl).length:=by
 rw [Q5o];obtain ⟨a,b,rfl⟩:=List.append_of_mem h;rw [Q6j,show Z2 (u::b)=(u.sk++Q2 u.ts)++Z2 b from rfl];simp only [List.length_append];omega
theorem V5n (m:Int) (d:DS) (hd:d.Ok) (hsz:d.data.length≤60000) (hul:d.un.1.length≤1000) (j:Nat) (u:Un) (hu:d.un.1[j]? =some u) (rl:List (Nat×Nat)) (tg:List (List Tk)) (ha:X4z 0 rl (X1 u.ts).length) (hrl:rl.length≤100000)
 (ht:AllT (fun r t=>TgtOk d.fmt (((X1 u.ts).take r.2).drop r.1) t) rl tg) (hn:(Q2m (X1 u.ts) 0 rl tg).length≤500) (hlt:∀ t∈tg,X2 t≤500)
 (hnsz:(P3 (d.un.1.set j ⟨u.sk,u.key,F6 u.ts 0 rl (tg.map (tsF d.fmt))⟩) d.un.2).length≤60000):
 (∃ n,RplOk m d.fmt d.ps (2 * j+1) u.ts (X5j u.ts) rl tg n)∧RawOk d.fmt (F6 u.ts 0 rl (tg.map (tsF d.fmt)))∧d.ps[2 * j+1]? =some ⟨true,ofL u.key,ofL (Q2 u.ts)⟩∧
   ∃ d':DS,d'.Ok∧d'.fmt=d.fmt∧d'.un=(d.un.1.set j ⟨u.sk,u.key,F6 u.ts 0 rl (tg.map (tsF d.fmt))⟩,d.un.2)∧d.ps.set (2 * j+1) ⟨true,ofL u.key,ofL (Q2 (F6 u.ts 0 rl (tg.map (tsF d.fmt))))⟩=d'.ps:=by
 obtain ⟨hj,rfl⟩:=List.getElem?_eq_some_iff.1 hu;have hf:=d.ok_fmt;have hc:=d.raws hd _ (List.getElem_mem hj);have hb:=V5b d.fmt hf _ hc rl tg ha ht hn;obtain ⟨d',e1,e2,e3⟩:=d.set hd j _ hu _ hb;have he:=X0x d.un.1 d.un.2 j hj;have hg:=Y6f d.un.1 d.un.2 j hj (F6 d.un.1[j].ts 0 rl (tg.map (tsF d.fmt)));have hi:2 * j+1 < d.ps.length:=(by unfold DS.ps;rw [Q3t];omega);have hh:d.ps[2 * j+1]'hi=⟨true,ofL d.un.1[j].key,ofL (Q2 d.un.1[j].ts)⟩:=by
  have:=List.getElem?_eq_getElem hi;unfold DS.ps at this;rw [he] at this;injection this with this;exact this.symm
 have hq:d.ps.set (2 * j+1) ⟨true,ofL d.un.1[j].key,ofL (Q2 (F6 d.un.1[j].ts 0 rl (tg.map (tsF d.fmt))))⟩=d'.ps:=by
  unfold DS.ps;rw [hg,e3]
 refine ⟨?_,hb,he,d',e1,e2,e3,hq⟩;have hs:(Q2 d.un.1[j].ts).length≤60000:=Nat.le_trans (V0t d.un.1 d.un.2 _ (List.getElem_mem hj)) hsz;have hm:(Q2 (F6 d.un.1[j].ts 0 rl (tg.map (tsF d.fmt)))).length≤60000:=by
  refine Nat.le_trans (V0t _ d.un.2 ⟨d.un.1[j].sk,d.un.1[j].key,F6 d.un.1[j].ts 0 rl (tg.map (tsF d.fmt))⟩ ?_) hnsz;exact List.mem_set yY _
 obtain ⟨n,n1,n2,n3⟩:=Z2y d.fmt _ hb;have hk:=hc.len;have hl:=Z2z _ _ hc;have ho:(X5j d.un.1[j].ts).length=(X1 d.un.1[j].ts).length+1:=(by unfold X5j;rw [List.length_append,Q4h];rfl);exact ⟨n,{
  fm:=hf
  len:=by unfold DS.ps;rw [Q3t];omega
  size:=by rw [DS.bytes];omega
  spl:=d.spl m hd yY
  kl:=hi
  un:=by rw [hh]
  raw:=by rw [hh]
  rsz:=yY
  dec:=Q7a m d.fmt hf _ hc yY
  one:=hl
  pos:=hk
  cut:=Z4e m d.fmt hf _ hc yY
  csl:=ho
  cat:=fun p hp=>by rw [V3d,List.getElem?_map,V2m _ p hp];rfl
  rtl:=AllT.len ht
  rll:=hrl
  asc:=Z7n _ _ _ ha
  tgn:=fun t h=>by obtain ⟨r,_,hr⟩:=AllT.mem ht t h;exact hr.nrm
  enc:=fun t h=>by
   obtain ⟨r,_,hr⟩:=AllT.mem ht t h;exact Z4l m d.fmt hf t (V6d d.fmt _ hc.num yY r.1 r.2 t hr (hlt t h)) (fun e=>by rw [e] at hr;exact Y7r _ t hr) (fun e=>Z7d d.fmt e _ t hr)
  new:=Q7a m d.fmt hf _ hb yY
  none_:=Z2z _ _ hb
  npos:=hb.len
  nrsz:=yY
  num:=n1
  nle:=yY
  knd:=n3
  nsz:=by
   rw [hh];show (Z0 (d.ps.set (2 * j+1) ⟨true,ofL d.un.1[j].key,ofL (Q2 (F6 d.un.1[j].ts 0 rl (tg.map (tsF d.fmt))))⟩)).length≤_;unfold DS.ps;rw [hg,V6y];omega }⟩
theorem X7e (rs:List Ru) (f:List Tk):Z7g (sqF f) 0 (H6 rs f):=Y2q (sqF f) (V1q f) _ 0 0 (by rw [Q7v];exact Z1n rs f) yQ (fun j _ _ h=>yY)
theorem Z7z (R:List (Bool×Bool)):∀ (l:List (Nat×Nat)) (a:Nat),Z7g R a l→a≤R.length→a+l.length≤R.length∧∀ r∈l,a≤r.1∧r.1 < r.2∧r.2≤R.length
 | [],a,_,ha=>⟨ha,fun r hr=>by simp at hr⟩
 | r::l,a,h,ha=>by
   obtain ⟨h1,h2,h3,_,_,_,_,h4⟩:=h;obtain ⟨g1,g2⟩:=Z7z R l r.2 h4 h3;refine ⟨by rw [List.length_cons];omega,fun x hx=>?_⟩;rcases List.mem_cons.1 hx with rfl | hx
   ·exact ⟨h1,h2,h3⟩
   ·have:=g2 x hx;omega
theorem Q7s (rs:List Ru) (f:List Tk):(H6 rs f).length≤X2 f∧∀ r∈H6 rs f,r.1 < r.2∧r.2≤X2 f:=by
 have h:=Z7z (sqF f) _ 0 (X7e rs f) (Nat.zero_le _);rw [Q7v] at h;exact ⟨yY,fun r hr=>(h.2 r hr).2⟩
structure Pc where
 pt:Nat
 lo:Nat
 hi:Nat
 src:List Tk
def pcU (k:Nat) (f:List Tk) (r:Nat×Nat):Pc:=⟨k,r.1,r.2,slI f 0 r.1 r.2⟩
def Y5z (k:Nat) (f:List Tk):List Pc:=(H6 [I1] f).map (pcU k f)
def O4 (ks:List (Nat×List Tk)):List Pc:=ks.flatMap fun x=>Y5z x.1 x.2
theorem V0m (k:Nat) (f:List Tk):(Y5z k f).length≤X2 f:=by
 unfold Y5z;rw [List.length_map];exact (Q7s _ f).1
structure Pv where
 p:Pc
 A:Option Addr
 c:Nat
def Pv.v (y:Pv):Value:=.slice y.A y.p.src.length y.c
def pvC (y:Pv):List Value:=[.int .i64 y.p.pt,.int .i64 y.p.lo,.int .i64 y.p.hi,y.v]
theorem Y2h (y:Pv):(pvC y).length=4:=rfl
theorem V4y (y:Pv):∀ u∈pvC y,u.oneCell'=true:=by
 intro u hu;simp [pvC,Pv.v] at hu;rcases hu with rfl | rfl | rfl | rfl<;>rfl
theorem V4z:(Tryz.prog.info? 56).map (fun i=>(i.zero,i.size,i.bytes))=some (some (.agg #[.int .i64 0,.int .i64 0,.int .i64 0,.slice none 0 0]),4,48):=by kernel_rfl
structure PcO (B:Nat) (w:World) (v:Value) (ps:List Pc) (ys:List Pv):Prop where
 own:OwnE 56 pvC 4 w B v ys
 eq:ys.map (·.p)=ps
 each:∀ y∈ys,OwnE 31 tkC 3 w B y.v y.p.src
section
variable {B:Nat} {w w':World} {v v':Value} {ps:List Pc} {ys:List Pv}
theorem PcO.nil:PcO B w (.slice none 0 0) [] []:=⟨OwnE.nil,rfl,fun _ h=>by simp at h⟩
theorem PcO.len (h:PcO B w v ps ys):ys.length=ps.length:=by rw [←h.eq,List.length_map]
theorem PcO.below (h:PcO B w v ps ys) (hb:Below w.heap.size w w'):PcO B w' v ps ys:=
 ⟨Q8 h.own fun k hk=>hb.block k (h.own.lt k hk).2,h.eq,fun y hy=>Q8 (h.each y hy) fun k hk=>hb.block k ((h.each y hy).lt k hk).2⟩
theorem PcO.push (h:PcO B w v ps ys) (y:Pv) (hy:OwnE 31 tkC 3 w B y.v y.p.src) (ho:OwnE 56 pvC 4 w' B v' (ys++[y])) (hg:w.grownBy w' v.ownBlock):PcO B w' v' (ps++[y.p]) (ys++[y]):=by
 have keep:∀ z:Pv,OwnE 31 tkC 3 w B z.v z.p.src→OwnE 31 tkC 3 w' B z.v z.p.src:=fun z hz=>Q8 hz fun k hk=>hg.block k (hz.lt k hk).2 (fun e=>by
  obtain ⟨cur,hc⟩:=B7 h.own e.symm;exact Y1 hz hc yX k hk rfl)
 refine ⟨ho,by rw [List.map_append,h.eq];rfl,fun z hz=>?_⟩;rcases List.mem_append.1 hz with hz | hz
 ·exact keep z (h.each z hz)
 ·rw [List.mem_singleton.1 hz];exact keep y hy
end
def RdPc (w:World) (v:Value) (ps:List Pc):Prop:=∃ ys:List Pv,RdE pvC 4 w v ys∧ys.map (·.p)=ps∧∀ y∈ys,RdT w y.v y.p.src
theorem PcO.rd {B:Nat} {w:World} {v:Value} {ps:List Pc} {ys:List Pv} (h:PcO B w v ps ys):RdPc w v ps:=⟨ys,h.own.rd Y2h,h.eq,fun y hy=>(h.each y hy).rd Q5⟩
theorem RdPc.below {w w':World} {v:Value} {ps:List Pc} (h:RdPc w v ps) (hb:Below w.heap.size w w'):RdPc w' v ps:=by
 obtain ⟨ys,h1,h2,h3⟩:=h;exact ⟨ys,h1.below hb yQ,h2,fun y hy=>(h3 y hy).below hb yQ⟩
theorem RdPc.shape {w:World} {v:Value} {ps:List Pc} (h:RdPc w v ps):∃ A c,v=.slice A ps.length c∧ps.length≤c:=by
 obtain ⟨ys,h1,h2,h3⟩:=h;obtain ⟨A,c,hv,hc,_⟩:=h1.shape;have:ys.length=ps.length:=(by rw [←h2,List.length_map]);rw [this] at hv hc;exact ⟨A,c,hv,hc⟩
theorem RdPc.at_ {w:World} {A:Option Addr} {n c:Nat} {ps:List Pc} (h:RdPc w (.slice A n c) ps) (k:Nat) (hk:k < ps.length):
 ∃ b o A' c',A=some ⟨b,o,none⟩∧b < w.heap.size∧w.cell? ⟨b,o+k * 4,none⟩=some (.int .i64 ps[k].pt)∧w.cell? ⟨b,o+k * 4+1,none⟩=some (.int .i64 ps[k].lo)∧w.cell? ⟨b,o+k * 4+2,none⟩=some (.int .i64 ps[k].hi)∧w.cell? ⟨b,o+k * 4+3,none⟩=some (.slice A' ps[k].src.length c')∧RdT w (.slice A' ps[k].src.length c') ps[k].src:=by
 obtain ⟨ys,h1,h2,h3⟩:=h;subst h2;rw [List.length_map] at hk;obtain ⟨b,o,hA,hb,hx⟩:=RdE.cells h1 yY;have hy:=List.getElem?_eq_getElem hk;have e:(ys.map (·.p))[k]'(by rw [List.length_map];exact hk)=ys[k].p:=List.getElem_map _;rw [e];exact ⟨b,o,_,_,hA,hb,hx k _ 0 _ hy rfl,hx k _ 1 _ hy rfl,hx k _ 2 _ hy rfl,hx k _ 3 _ hy rfl,h3 _ (List.getElem_mem hk)⟩
structure UnOk (m fmt:Int) (ps:List Pt) (ks:List (Nat×List Tk)):Prop where
 ok:E7 fmt
 idx:K3 ps 0=ks.map fun x=>(x.1:Int)
 each:∀ x∈ks,∃ h:x.1 < ps.length,ps[x.1].un=true∧X8t m fmt ps[x.1].raw x.2∧X2 x.2≤1000∧x.2.length≤1000
 len:ps.length≤1000
theorem Y7t {m fmt:Int} {ps:List Pt} {ks:List (Nat×List Tk)} (h:UnOk m fmt ps ks):ks.length≤1000:=by
 have h1:=Q4z ps 0;rw [h.idx,List.length_map] at h1;exact Nat.le_trans h1 h.len
theorem Q4t {m fmt:Int} {ps:List Pt} {ks:List (Nat×List Tk)} (h:UnOk m fmt ps ks):∀ k,(O4 (ks.take k)).length≤1000 * k
 | 0=>by simp [O4]
 | k+1=>by
   have ih:=Q4t h k;by_cases hk:k < ks.length
   ·have e:O4 (ks.take k++[ks[k]])=O4 (ks.take k)++Y5z ks[k].1 ks[k].2:=(by unfold O4;rw [List.flatMap_append];simp);rw [List.take_succ_eq_append_getElem hk,e,List.length_append];have h2:=V0m ks[k].1 ks[k].2;obtain ⟨_,_,_,h3,_⟩:=h.each ks[k] (List.getElem_mem hk);omega
   ·rw [List.take_of_length_le yY];rw [List.take_of_length_le yY] at ih;omega
def D9 (k:Nat):List Pc→List (Nat×Nat)
 | []=>[]
 | p::l=>if p.pt=k then (p.lo,p.hi)::D9 k l else D9 k l
def O7 (k:Nat):List Pc→List (List Tk)→List (List Tk)
 | p::l,t::T=>if p.pt=k then t::O7 k l T else O7 k l T
 | _,_=>[]
theorem Q3s (k:Nat):∀ (a b:List Pc),D9 k (a++b)=D9 k a++D9 k b
 | [],b=>rfl
 | p::a,b=>by
   rw [List.cons_append,D9,D9,Q3s k a b];split<;>rfl
theorem X9z (k:Nat):∀ (a:List Pc) (A:List (List Tk)) (b:List Pc) (B:List (List Tk)),a.length=A.length→O7 k (a++b) (A++B)=O7 k a A++O7 k b B
 | [],[],b,B,_=>rfl
 | p::a,t::A,b,B,h=>by
   rw [List.cons_append,List.cons_append,O7,O7,X9z k a A b B (by simpa using h)];split<;>rfl
theorem Y9m (k:Nat) (l:List Pc) (i:Nat) (h:i < l.length):D9 k (l.take (i+1))=if l[i].pt=k then D9 k (l.take i)++[(l[i].lo,l[i].hi)] else D9 k (l.take i):=by
 rw [List.take_succ_eq_append_getElem h,Q3s];by_cases hk:l[i].pt=k
 ·rw [if_pos hk];simp [D9,hk]
 ·rw [if_neg hk];simp [D9,hk]
theorem Y9n (k:Nat) (l:List Pc) (T:List (List Tk)) (i:Nat) (h:i < l.length) (hT:i < T.length):O7 k (l.take (i+1)) (T.take (i+1))=if l[i].pt=k then O7 k (l.take i) (T.take i)++[T[i]] else O7 k (l.take i) (T.take i):=by
 rw [List.take_succ_eq_append_getElem h,List.take_succ_eq_append_getElem hT,X9z k _ _ _ _ yV];by_cases hk:l[i].pt=k
 ·rw [if_pos hk];simp [O7,hk]
 ·rw [if_neg hk];simp [O7,hk]
theorem X9y (k:Nat):∀ l:List Pc,(D9 k l).length≤l.length
 | []=>yQ
 | p::l=>by
   have:=X9y k l;rw [D9];split
   ·simp;omega
   ·simp;omega
theorem Y6a (k:Nat):∀ (l:List Pc) (T:List (List Tk)),l.length=T.length→(O7 k l T).length=(D9 k l).length
 | [],[],_=>rfl
 | p::l,t::T,h=>by
   have:=Y6a k l T (by simpa using h);rw [D9,O7];split
   ·simp [this]
   ·exact this
def AllP (P:Pc→List Tk→Prop):List Pc→List (List Tk)→Prop
 | [],[]=>True
 | p::l,t::T=>P p t∧AllP P l T
 | _,_=>False
theorem AllP.len {P:Pc→List Tk→Prop}:∀ {l:List Pc} {T:List (List Tk)},AllP P l T→l.length=T.length
 | [],[],_=>rfl
 | _::_,_::_,h=>by rw [List.length_cons,List.length_cons,AllP.len h.2]
theorem AllP.map {P:Pc→List Tk→Prop} (g:Pc→List Tk):∀ (l:List Pc),(∀ p∈l,P p (g p))→AllP P l (l.map g)
 | [],_=>trivial
 | p::l,h=>⟨h p yW,AllP.map g l fun x hx=>h x (by simp [hx])⟩
theorem AllP.pick {P:Pc→List Tk→Prop} (k:Nat):∀ {l:List Pc} {T:List (List Tk)},AllP P l T→AllT (fun r t=>∃ p,p∈l∧p.pt=k∧r=(p.lo,p.hi)∧P p t) (D9 k l) (O7 k l T)
 | [],[],_=>trivial
 | p::l,t::T,h=>by
   have ih:=AllT.imp (Q:=fun r t=>∃ q,q∈p::l∧q.pt=k∧r=(q.lo,q.hi)∧P q t) (fun r t ⟨q,h1,h2⟩=>⟨q,by simp [h1],h2⟩) (AllP.pick k h.2);rw [D9,O7];by_cases hk:p.pt=k
   ·rw [if_pos hk,if_pos hk];exact ⟨⟨p,by simp,hk,rfl,h.1⟩,ih⟩
   ·rw [if_neg hk,if_neg hk];exact ih
theorem Q6f (k k':Nat) (h:k'≠k) (f:List Tk):∀ (rl:List (Nat×Nat)),D9 k (rl.map (pcU k' f))=[]
 | []=>rfl
 | r::rl=>by
   rw [List.map_cons,D9,if_neg (show ¬ (pcU k' f r).pt=k from h),Q6f k k' h f rl]
theorem X6v (k:Nat) (f:List Tk):∀ (rl:List (Nat×Nat)),D9 k (rl.map (pcU k f))=rl
 | []=>rfl
 | r::rl=>by
   rw [List.map_cons,D9,if_pos (show (pcU k f r).pt=k from rfl),X6v k f rl];rfl
def ksU:List Un→Nat→List (Nat×List Tk)
 | [],_=>[]
 | u::us,i=>(2 * i+1,Q9 (X1 u.ts))::ksU us (i+1)
theorem V4g:∀ (us:List Un) (i:Nat),(ksU us i).length=us.length
 | [],_=>rfl
 | u::us,i=>by rw [ksU,List.length_cons,V4g us,List.length_cons]
theorem Z2l:∀ (us:List Un) (i j:Nat) (x:Nat×List Tk),(ksU us i)[j]? =some x→∃ u,us[j]? =some u∧x=(2 * (i+j)+1,Q9 (X1 u.ts))
 | [],_,_,_,h=>by simp [ksU] at h
 | u::us,i,0,x,h=>by
   injection h with h;exact ⟨u,rfl,h.symm⟩
 | u::us,i,j+1,x,h=>by
   obtain ⟨u',h1,h2⟩:=Z2l us (i+1) j x h;exact ⟨u',h1,by rw [h2,show i+1+j=i+(j+1) by omega]⟩
theorem Y1v (us:List Un) (i:Nat) (x:Nat×List Tk) (h:x∈ksU us i):∃ j u,us[j]? =some u∧x=(2 * (i+j)+1,Q9 (X1 u.ts)):=by
 obtain ⟨j,hj⟩:=List.mem_iff_getElem?.1 h;obtain ⟨u,h1,h2⟩:=Z2l us i j x hj;exact ⟨j,u,h1,h2⟩
theorem X2q (x:Nat×List Tk) (ks:List (Nat×List Tk)):O4 (x::ks)=Y5z x.1 x.2++O4 ks:=rfl
theorem Z2t:∀ (us:List Un) (i j:Nat) (u:Un),us[j]? =some u→D9 (2 * (i+j)+1) (O4 (ksU us i))=H6 [I1] (Q9 (X1 u.ts))
 | [],_,_,_,h=>by simp at h
 | v::us,i,0,u,h=>by
   injection h with h;subst h;rw [ksU,X2q,Q3s];have ha:∀ (us:List Un) (i':Nat),i < i'→D9 (2 * (i+0)+1) (O4 (ksU us i'))=[]:=by
    intro us;induction us with
    | nil=>intro _ _;rfl
    | cons v us ih=>
      intro i' hi;rw [ksU,X2q,Q3s,ih (i'+1) yY,List.append_nil];exact Q6f _ _ (by show 2 * i'+1≠_;omega) _ _
   rw [ha us (i+1) yY,List.append_nil];exact X6v _ _ _
 | v::us,i,j+1,u,h=>by
   have ih:=Z2t us (i+1) j u h;rw [ksU,X2q,Q3s,show 2 * (i+(j+1))+1=2 * (i+1+j)+1 by omega,ih];rw [show D9 (2 * (i+1+j)+1) (Y5z (2 * i+1,Q9 (X1 v.ts)).1 (2 * i+1,Q9 (X1 v.ts)).2)=[] from Q6f _ _ (by show 2 * i+1≠_;omega) _ _];rfl
theorem V4r (us:List Un) (i:Nat) (p:Pc) (h:p∈O4 (ksU us i)):∃ j u r,us[j]? =some u∧r∈H6 [I1] (Q9 (X1 u.ts))∧p=pcU (2 * (i+j)+1) (Q9 (X1 u.ts)) r:=by
 obtain ⟨x,hx,hp⟩:=List.mem_flatMap.1 h;obtain ⟨j,u,h1,h2⟩:=Y1v us i x hx;subst h2;obtain ⟨r,hr,hp⟩:=List.mem_map.1 hp;exact ⟨j,u,r,h1,hr,hp.symm⟩
def Z3w (m fmt:Int) (l:List Pc) (T:List (List Tk)):List Nat→List Pt→List Pt→Prop
 | [],ps,pe=>ps=pe
 | k::K,ps,pe=>∃ ts cs n,∃ h:RplOk m fmt ps k ts cs (D9 k l) (O7 k l T) n,Z3w m fmt l T K (ps.set k ⟨true,(ps[k]'h.kl).key,ofL (Q2 (F6 ts 0 (D9 k l) ((O7 k l T).map (tsF fmt))))⟩) pe
def Q9b (fmt:Int) (l:List Pc) (T:List (List Tk)) (j:Nat) (u:Un):Un:=⟨u.sk,u.key,F6 u.ts 0 (D9 (2 * j+1) l) ((O7 (2 * j+1) l T).map (tsF fmt))⟩
def Q5i (fmt:Int) (l:List Pc) (T:List (List Tk)):Nat→List Un→List Un
 | _,[]=>[]
 | j,u::us=>Q9b fmt l T j u::Q5i fmt l T (j+1) us
theorem Y0m (fmt:Int) (l:List Pc) (T:List (List Tk)):∀ (us:List Un) (j:Nat),(Q5i fmt l T j us).length=us.length
 | [],_=>rfl
 | u::us,j=>by rw [Q5i,List.length_cons,Y0m fmt l T us,List.length_cons]
theorem Y0l (fmt:Int) (l:List Pc) (T:List (List Tk)):∀ (us:List Un) (j i:Nat) (u:Un),us[i]? =some u→(Q5i fmt l T j us)[i]? =some (Q9b fmt l T (j+i) u)
 | [],_,_,_,h=>by simp at h
 | v::us,j,0,u,h=>by
   injection h with h;subst h;rfl
 | v::us,j,i+1,u,h=>by
   have:=Y0l fmt l T us (j+1) i u h;rw [Q5i,List.getElem?_cons_succ,this,show j+1+i=j+(i+1) by omega]
structure UnitT (fmt:Int) (u:Un) (rl:List (Nat×Nat)) (tg:List (List Tk)):Prop where
 asc:X4z 0 rl (X1 u.ts).length
 rll:rl.length≤100000
 all:AllT (fun r t=>TgtOk fmt (((X1 u.ts).take r.2).drop r.1) t) rl tg
 len:(Q2m (X1 u.ts) 0 rl tg).length≤500
 tl:∀ t∈tg,X2 t≤500
 gro:(Q2 (F6 u.ts 0 rl (tg.map (tsF fmt)))).length≤(Q2 u.ts).length+11600
theorem X9k (u u':Un) (hs:u'.sk=u.sk) (b:List Un) (tl:List UInt8):∀ a:List Un,(P3 (a++u'::b) tl).length+(Q2 u.ts).length=(P3 (a++u::b) tl).length+(Q2 u'.ts).length
 | []=>by
   rw [List.nil_append,List.nil_append,P3,P3,hs];simp only [List.length_append];omega
 | x::a=>by
   have ih:=X9k u u' hs b tl a;rw [List.cons_append,List.cons_append,P3,P3];simp only [List.length_append] at ih ⊢;omega
theorem V6r (m fmt:Int) (tl:List UInt8) (l:List Pc) (T:List (List Tk)):∀ (us dn:List Un) (d:DS),d.Ok→d.fmt=fmt→d.un=(dn++us,tl)→dn.length+us.length≤4→(P3 (dn++us) tl).length+11600 * us.length≤60000→
 (∀ j u,us[j]? =some u→UnitT fmt u (D9 (2 * (dn.length+j)+1) l) (O7 (2 * (dn.length+j)+1) l T))→
 Z3w m fmt l T ((List.range us.length).map fun (j:Nat)=>2 * (dn.length+j)+1) d.ps (B8 (dn++Q5i fmt l T dn.length us) tl)∧∃ d':DS,d'.Ok∧d'.fmt=fmt∧d'.un=(dn++Q5i fmt l T dn.length us,tl)
 | [],dn,d,h1,h2,h3,_,_,_=>by
   refine ⟨?_,d,h1,h2,h3⟩;show d.ps=_;unfold DS.ps;rw [h3];rfl
 | u::us,dn,d,h1,h2,h3,h4,h5,h6=>by
   subst h2;have hu:=h6 0 u rfl;simp only [Nat.add_zero] at hu;have ha:(dn++u::us).set dn.length (Q9b d.fmt l T dn.length u)=dn++Q9b d.fmt l T dn.length u::us:=Z3j _ _ _ _;have hh:=X9k u (Q9b d.fmt l T dn.length u) rfl us tl dn;have he:(Q2 (Q9b d.fmt l T dn.length u).ts).length≤(Q2 u.ts).length+11600:=hu.gro;rw [List.length_cons] at h5;rw [List.length_cons] at h4;have hg:d.un.1.length≤1000:=(by rw [h3];simp;omega);have hc:d.un.1[dn.length]? =some u:=by
    rw [h3];show (dn++u::us)[dn.length]? =_;rw [List.getElem?_append_right yQ,Nat.sub_self];rfl
   obtain ⟨⟨n,hr⟩,_,hf,d',e1,e2,e3,e4⟩:=V5n m d h1 (by unfold DS.data;rw [h3];show (P3 (dn++u::us) tl).length≤_;omega) hg dn.length u hc _ _ hu.asc hu.rll hu.all hu.len hu.tl (by
    rw [h3];show (P3 ((dn++u::us).set dn.length (Q9b d.fmt l T dn.length u)) tl).length≤_;rw [ha];omega)
   have e3':d'.un=((dn++[Q9b d.fmt l T dn.length u])++us,tl):=by
    rw [e3,h3];show ((dn++u::us).set dn.length (Q9b d.fmt l T dn.length u),tl)=_;rw [ha,List.append_assoc];rfl
   have hb:(dn++[Q9b d.fmt l T dn.length u]).length=dn.length+1:=yW;obtain ⟨g1,g2⟩:=V6r m d.fmt tl l T us (dn++[Q9b d.fmt l T dn.length u]) d' e1 e2 e3' (by rw [hb];omega) (by
    rw [List.append_assoc];show (P3 (dn++Q9b d.fmt l T dn.length u::us) tl).length+_≤_;omega) (fun j x hx=>by
    have:=h6 (j+1) x hx;rw [hb,show dn.length+1+j=dn.length+(j+1) by omega];exact this)
   rw [hb] at g1 g2;have el:(dn++[Q9b d.fmt l T dn.length u])++Q5i d.fmt l T (dn.length+1) us=dn++Q5i d.fmt l T dn.length (u::us):=(by rw [List.append_assoc];rfl);rw [el] at g1 g2;refine ⟨?_,g2⟩;rw [List.length_cons,List.range_succ_eq_map,List.map_cons,List.map_map];refine ⟨u.ts,X5j u.ts,n,hr,?_⟩;show Z3w m d.fmt l T _ (d.ps.set (2 * dn.length+1) ⟨true,(d.ps[2 * dn.length+1]'hr.kl).key,ofL (Q2 (F6 u.ts 0 (D9 (2 * dn.length+1) l) ((O7 (2 * dn.length+1) l T).map (tsF d.fmt))))⟩) _;have hd:(d.ps[2 * dn.length+1]'hr.kl).key=ofL u.key:=by
    have:=List.getElem?_eq_getElem hr.kl;rw [hf] at this;injection this with this;rw [←this]
   rw [hd,e4];have em:((fun (j:Nat)=>2 * (dn.length+j)+1)∘Nat.succ)=fun (j:Nat)=>2 * (dn.length+1+j)+1:=by
    funext j;show 2 * (dn.length+(j+1))+1=_;omega
   rw [em];exact g1
theorem Q2w (s:ByteArray) (w:World) (hs:s.size≤maxLen):
 Calls Tryz.prog 139 #[.string s] w fun e w'=>e=.returned (.bool (V8 s.data.toList))∧w=w':=by
 unfold maxLen at hs;have hb:=Lib.size_eq s;by_cases h1:s.size < 1
 ·have hn:=X3r s.data.toList yY;have H:=zW hn;clear hn hb;go_enter Tryz.func139,Tryz.ntmps139
  go_wp2
  go_ret
  exact ⟨U9 H.o.symm,rfl⟩
 by_cases h2:24 < s.size
 ·have hn:=X6n s.data.toList yY;have H:=zW hn;clear hn hb;go_enter Tryz.func139,Tryz.ntmps139
  go_wp2
  go_ret
  exact ⟨U9 H.o.symm,rfl⟩
 have HZ:=zW hb;clear hb;go_enter Tryz.func139,Tryz.ntmps139
 go_wp2
 go_loop [3] (fun i=>∃ k:Nat,k≤s.size∧i=.int .i64 k∧(1≤k→yK (V8 s.data.toList=(s.data.toList.drop k).all R5))) (fun i=>s.size - (intOf i).toNat)
 case atStart=>exact ⟨0,yY,rfl,fun h=>yY⟩
 case round=>
  obtain ⟨k,hk,rfl,HR⟩:=hrel;have hc:=zW HR;clear HR;by_cases hlt:k < s.size
  ·have hl:k < s.data.toList.length:=(by rw [←Lib.size_eq];exact hlt);have hgk:s.data.toList[k]=s[k]:=rfl;have hf:s[k].toNat < 256:=s[k].toNat_lt;by_cases hk0:1≤k
   ·have ha:=(hc.o hk0).o.trans (Q8h _ _ hl);rw [hgk] at ha;have HS:=zW ha;clear ha hgk;go_wp2
    all_goals (try simp only [beq_iff_eq,beq_eq_false_iff_ne,bne_iff_ne,bne_eq_false_iff_eq,ne_eq,Bool.not_eq_true',Bool.not_eq_false',Bool.not_eq_eq_eq_not,Bool.not_true,Bool.not_false,decide_eq_true_eq,decide_eq_false_iff_not,Int.not_lt,Int.not_le] at *)
    all_goals first
     | (refine ⟨⟨k + 1,yY, by go_num, fun _ => ?_⟩, by simp [intOf]; try omega⟩
        have hr:R5 s[k]=true:=(by simp only [R5,decide_eq_true_eq];omega);have:=HS.o;rw [hr,Bool.true_and] at this;exact this)
     | (have hr : R5 s[k] = false := by simp only [R5, decide_eq_false_iff_not]; omega
        have:=HS.o;rw [hr,Bool.false_and] at this;go_ret
        exact ⟨U9 this.symm,rfl⟩)
   ·obtain rfl:k=0:=yY;have hd:=fun (h:M7 s[0]=true)=>X6o s.data.toList hl (by rw [←HZ.o];omega) (by rw [hgk];exact h);have he:=fun (h:M7 s[0]=false)=>X6m s.data.toList hl (by rw [hgk];exact h);have H1:=zW hd;have H2:=zW he;clear hd he hgk;go_wp2
    all_goals (try simp only [beq_iff_eq,beq_eq_false_iff_ne,bne_iff_ne,bne_eq_false_iff_eq,ne_eq,Bool.not_eq_true',Bool.not_eq_false',Bool.not_eq_eq_eq_not,Bool.not_true,Bool.not_false,decide_eq_true_eq,decide_eq_false_iff_not,Int.not_lt,Int.not_le] at *)
    all_goals first
     | (refine ⟨⟨0 + 1,yY, by go_num, fun _ => ?_⟩, by simp [intOf]; try omega⟩
        have hr:M7 s[0]=true:=(by simp only [M7,decide_eq_true_eq];omega);exact H1.o hr)
     | (have hr : M7 s[0] = false := by simp only [M7, decide_eq_false_iff_not]; omega
        go_ret
        exact ⟨U9 (H2.o hr).symm,rfl⟩)
  ·have hl:¬ k < s.data.toList.length:=(by rw [←Lib.size_eq];exact hlt);have ha:=(hc.o yY).o.trans (Q9n _ _ hl);have HS:=zW ha;clear ha hl;go_wp2
   go_ret
   exact ⟨U9 HS.o.symm,rfl⟩
theorem X7a (s t:List UInt8):Lib.hasPrefix s t=(s.take t.length==t):=by
 rw [Bool.eq_iff_iff,beq_iff_eq];unfold Lib.hasPrefix;rw [List.isPrefixOf_iff_prefix];constructor
 ·rintro ⟨r,rfl⟩;rw [List.take_left]
 ·intro h;exact ⟨s.drop t.length,by conv=>rhs;rw [←List.take_append_drop t.length s,h]⟩
theorem Y4l (s:ByteArray) (n:Nat):(s.extract 0 n).toList=s.data.toList.take n:=by
 rw [Y4,ByteArray.data_extract,Array.toList_extract,List.extract_eq_take_drop,List.drop_zero,Nat.sub_zero]
theorem N2 (s t:ByteArray) (b:Bool) (h:Lib.hasPrefix s.data.toList t.data.toList=b) (w:World) (ht:t.size≤1000000):Calls Tryz.prog 136 #[.string s,.string t] w fun e w'=>e=.returned (.bool b)∧w=w':=by
 rw [X7a,←Lib.size_eq,←Y4l,←Y4] at h;by_cases hl:t.size≤s.size
 ·have hi:(t.size:Int)≤(s.size:Int):=yY;go_enter Tryz.func136,Tryz.ntmps136
  go_wp2_with fail
  go_ret
  exact ⟨by rw [←h];rfl,rfl⟩
 ·have hi:¬ (t.size:Int)≤(s.size:Int):=yY;have hb:b=false:=by
   rw [←h,beq_eq_false_iff_ne];intro e;have:=congrArg List.length e;rw [Y4l,Y4,List.length_take,←Lib.size_eq,←Lib.size_eq] at this;omega
  subst hb;clear h;go_enter Tryz.func136,Tryz.ntmps136
  go_wp2_with fail
  go_ret
  exact ⟨rfl,rfl⟩
theorem Q4a {fn:Func} {p:Tmp} {ty:TypeId} (h:fn.results=#[.cell p ty]) (tmps:Array Value) (P:Program) (w:World):
 (results fn tmps).run P w=((asAddr (tmps.getD p undef)).run P w).andThen fun a w₁=>(loadVar ty a).run P w₁:=by
 simp only [results,h];simp [Sem.run_bind,Result.andThen]
theorem V5l {fn:Func} {p:Tmp} (h:fn.results=#[.cell p 31]) (tmps:Array Value) (w:World) (g:Nat) (k d:Int) (t:ByteArray) (hp:tmps.getD p undef=.pointer (some ⟨g,0,none⟩))
 (c0:w.cell? ⟨g,0,none⟩=some (.int .i64 k)) (c1:w.cell? ⟨g,1,none⟩=some (.string t)) (c2:w.cell? ⟨g,2,none⟩=some (.int .i64 d)):
 (results fn tmps).run Tryz.prog w=.ok (.agg #[.int .i64 k,.string t,.int .i64 d]) w:=by
 rw [Q4a h,hp];go_simp
theorem E5 {fn:Func} {p u:Tmp} (h:fn.results=#[.cell p 31,.tmp u]) (tmps:Array Value) (w:World) (g:Nat) (k d:Int) (t:ByteArray) (x:Value) (hp:tmps.getD p undef=.pointer (some ⟨g,0,none⟩)) (hu:tmps.getD u undef=x)
 (c0:w.cell? ⟨g,0,none⟩=some (.int .i64 k)) (c1:w.cell? ⟨g,1,none⟩=some (.string t)) (c2:w.cell? ⟨g,2,none⟩=some (.int .i64 d)):
 (results fn tmps).run Tryz.prog w=.ok (.tuple #[.agg #[.int .i64 k,.string t,.int .i64 d],x]) w:=by
 rw [results_cell_tmp h,hp,hu];go_simp
def El7 (k:Int) (t:ByteArray) (n:Nat) (w:World) (e:Ending) (w':World):Prop:=
 e=.returned (.tuple #[.agg #[.int .i64 k,.string t,.int .i64 0],.int .i64 n])∧Below w.heap.size w w'
theorem Q1q (c:UInt8) (w:World):Calls Tryz.prog 137 #[.int .u8 (c.toNat:Int)] w fun e w'=>e=.returned (.agg #[.int .i64 1,.string (⟨#[c]⟩:ByteArray),.int .i64 0])∧Below w.heap.size w w':=by
 have HB:=zW (Below.refl w.heap.size w);have ha:=O2 (w.alloc (.cells #[.int .i64 0,.string ⟨#[]⟩,.int .i64 0] 31)) c;rw [show (w.alloc (.cells #[.int .i64 0,.string ⟨#[]⟩,.int .i64 0] 31)).heap.size=w.heap.size+1 by simp] at ha;go_enter Tryz.func137,Tryz.ntmps137
 go_wp2_with fail
 refine bodyPost_ret (V5l rfl _ _ w.heap.size 1 0 (⟨#[c]⟩:ByteArray) rfl yU yU yU) rfl ?_;refine ⟨rfl,?_⟩
 (repeat' (first | with_reducible exact Below.refl _ _ | refine Q1 ?_ _ | refine Below.drew ?_ | refine Below.setCell ?_ yW _ | refine Below.alloc ?_ yW _))
theorem X2v (s nm:ByteArray) (r:List UInt8) (w:World) (hcr:s.data.toList=123::nm.data.toList++125::r) (hn:V8 nm.data.toList=true) (hsz:s.size≤1000000):
 Calls Tryz.prog 138 #[.string s] w (El7 5 nm (nm.size+2) w):=by
 obtain ⟨R,he⟩:∃ R:Ending→World→Prop,yK (R=El7 5 nm (nm.size+2) w):=⟨_,rfl⟩;rw [←he.o];have hj:s.size=nm.size+2+r.length:=(by rw [Lib.size_eq,hcr,Lib.size_eq nm];simp;omega);have hq:nm.size≤24:=by
  have:nm.data.toList.length≤24:=by
   cases hl:nm.data.toList with
   | nil=>simp
   | cons c r=>
     rw [hl] at hn;unfold V8 at hn;simp only [Bool.and_eq_true,decide_eq_true_eq] at hn;simp;omega
  rw [Lib.size_eq];exact this
 have hd:=zW (L2 s [123] (nm.data.toList++125::r) hcr);have hg:=zW (I7 nm.data.toList hn 125 yW);have hh:s.extract 1 (nm.size+1)=nm:=D7 _ _ _ _ (by rw [hcr,Lib.size_eq nm];simp);have CN:=zW (fun w=>Q2w nm w (by unfold maxLen;omega));rw [hn] at CN;have HB:=zW (Below.refl w.heap.size w);have ht:nm.size+2≤s.size:=yY;have ho:=zW (fun (W:World) (h:w.alloc (.cells #[.int .i64 0,.string ⟨#[]⟩,.int .i64 0] 31)=W)=>h);clear hcr hn hj;go_enter Tryz.func138,Tryz.ntmps138
 go_wp2_with fail
 obtain ⟨wo,ha⟩:∃ wo,yK (wo=w.alloc (.cells #[.int .i64 0,.string ⟨#[]⟩,.int .i64 0] 31)):=⟨_,rfl⟩;go_loopg [4] (nm.size+2) (fun gk iv wr=>∃ k:Nat,iv=.int .i64 ((k+1:Nat):Int)∧k≤nm.size∧yK (wr=wo)∧nm.size+1 - k≤gk)
 case atStart=>exact ⟨0,rfl,Nat.zero_le _,ha.o.symm,Nat.le_succ _⟩
 case round=>
  obtain ⟨k,rfl,hk,HW,hgk⟩:=hrel;obtain ⟨p,hp⟩:∃ p,p=k+1:=⟨_,rfl⟩;rw [←hp];have hf:p < s.size:=yY;have hs:(p:Int) < (s.size:Int):=yY;have hi:(p:Int)≤25:=yY;by_cases hlt:k < nm.size
  ·have hc:=(hd.o k p (by rw [List.length_append,←Lib.size_eq];omega) (by rw [hp];simp;omega) hf).trans (List.getElem_append_left (by rw [←Lib.size_eq];exact hlt));have hb:=hg.o _ (List.getElem_mem (by rw [←Lib.size_eq];exact hlt));rw [←hc] at hb;have t1:((s[p].toNat:Int)==125)=false:=X8 s[p] 125 hb;have HS:yK ((p:Int)+1=((k+1+1:Nat):Int)):=(by show _=_;omega);clear hc hb hp;go_wp2_with fail
   rw [HS.o];go_roundg (nm.size - k)
   case measure=>omega
   case rel=>exact ⟨k+1,rfl,hlt,HW.o,yY⟩
  ·obtain rfl:k=nm.size:=yY;have hc:s[p]=125:=(hd.o nm.size p (by rw [List.length_append,←Lib.size_eq];simp) (by rw [hp];show nm.size+1=1+nm.size;omega) hf).trans (by rw [List.getElem_append_right (by rw [←Lib.size_eq];exact yQ)];simp only [show nm.size - nm.data.toList.length=0 by rw [←Lib.size_eq];omega];rfl);have t1:((s[p].toNat:Int)==125)=true:=(by rw [hc];rfl);have HS:yK ((p:Int)+1=((nm.size+2:Nat):Int)):=(by show _=_;omega);rw [←hp] at hh;have hm:wr=w.alloc (.cells #[.int .i64 0,.string ⟨#[]⟩,.int .i64 0] 31):=HW.o.trans ha.o;subst hm;have hr:1≤p:=yY;clear hc hp HW ha;go_wp2_with (go_at_call 139;refine (CN.o _).mono ?_;rintro e w' ⟨rfl,rfl⟩)
   refine bodyPost_ret (E5 rfl _ _ w.heap.size 5 0 nm _ rfl rfl yU yU yU) rfl ?_;rw [he.o];refine ⟨?_,?_⟩
   ·rw [←HS.o];rfl
   ·(repeat' (first | with_reducible exact Below.refl _ _ | refine Q1 ?_ _ | refine Below.drew ?_ | refine Below.setCell ?_ yW _ | refine Below.alloc ?_ yW _))
theorem Z9n (sub:List UInt8):∀ (l:List UInt8) (n:Nat),Lib.index l sub=(n:Int)→Lib.hasPrefix (l.drop n) sub=true∧∀ k,k < n→Lib.hasPrefix (l.drop k) sub=false
 | [],n,h=>by
   rw [Lib.index] at h;split at h
   ·rename_i h1;obtain rfl:n=0:=yY;refine ⟨?_,fun k hk=>yY⟩;cases sub with
    | nil=>rfl
    | cons a b=>simp at h1
   ·omega
 | c::l,n,h=>by
   rw [Lib.index] at h;split at h
   ·rename_i h1;obtain rfl:n=0:=yY;exact ⟨h1,fun k hk=>yY⟩
   ·rename_i h1;split at h
    ·omega
    ·rename_i h2;have h3:Lib.index l sub≠-1:=(by simpa using h2);have h4:=Y4x l sub;obtain ⟨m,rfl⟩:∃ m,n=m+1:=⟨n - 1,yY⟩;obtain ⟨g1,g2⟩:=Z9n sub l m yY;refine ⟨g1,fun k hk=>?_⟩;cases k with
     | zero=>
       show Lib.hasPrefix (c::l) sub=false;unfold Lib.hasPrefix;exact Bool.eq_false_iff.2 h1
     | succ k=>exact g2 k yY
theorem Z2a (s t:ByteArray) (p:Nat):((s.extract p (p+t.size)).toList==t.toList)=Lib.hasPrefix (s.data.toList.drop p) t.data.toList:=by
 rw [X7a,Y4,Y4,ByteArray.data_extract,Array.toList_extract,List.extract_eq_take_drop,Lib.size_eq t,show p+t.data.toList.length - p=t.data.toList.length by omega]
theorem Q7g (s t:ByteArray) (p n:Nat) (w:World) (h:Lib.index (s.data.toList.drop p) t.data.toList=(n:Int)) (ht:0 < t.size) (hsz:s.size≤1000000) (hts:t.size≤1000000):
 Calls Tryz.prog 174 #[.string s,.string t,.int .i64 p] w fun e w'=>e=.returned (.int .i64 (p+n:Nat))∧w=w':=by
 obtain ⟨R,ha⟩:∃ R:Ending→World→Prop,yK (R=fun e w'=>e=.returned (.int .i64 (p+n:Nat))∧w=w'):=⟨_,rfl⟩;rw [←ha.o];obtain ⟨h1,h2⟩:=Z9n _ _ _ h;have hd:p+n+t.size≤s.size:=by
  have h3:=h1;rw [X7a,beq_iff_eq,List.drop_drop] at h3;have:=congrArg List.length h3;rw [List.length_take,List.length_drop,←Lib.size_eq,←Lib.size_eq] at this;omega
 have HE:=zW (fun k (hk:k < n)=>show ((s.extract (p+k) (p+k+t.size)).toList==t.toList)=false by rw [Z2a,←List.drop_drop];exact h2 k hk);have HF:=zW (show ((s.extract (p+n) (p+n+t.size)).toList==t.toList)=true by rw [Z2a,←List.drop_drop];exact h1);obtain ⟨wo,hb⟩:∃ wo,yK (wo=w):=⟨w,rfl⟩;clear h h1 h2;go_enter Tryz.func174,Tryz.ntmps174
 go_wp2_with fail
 go_loopg [7] (n+1) (fun gk iv wr=>∃ q k:Nat,iv=.int .i64 q∧yK (q=p+k)∧k≤n∧yK (wr=wo)∧n+1 - k≤gk)
 case atStart=>exact ⟨p,0,rfl,rfl,Nat.zero_le _,hb.o.symm,yQ⟩
 case round=>
  obtain ⟨q,k,rfl,HQ,hk,HW,hgk⟩:=hrel;have hq:q+t.size≤s.size:=(by have:=HQ.o;omega);have he:(q:Int)+(t.size:Int)≤(s.size:Int):=yY;by_cases hlt:k < n
  ·have t1:((s.extract q (q+t.size)).toList==t.toList)=false:=(by rw [HQ.o];exact HE.o k hlt);have hc:yK (q+1=p+(k+1)):=(by show _=_;have:=HQ.o;omega);go_wp2_with fail
   rw [show (q:Int)+1=((q+1:Nat):Int) from rfl];go_roundg (n+1 - (k+1))
   case measure=>omega
   case rel=>exact ⟨q+1,k+1,rfl,hc.o,hlt,HW.o,yQ⟩
  ·obtain rfl:k=n:=yY;have t1:((s.extract q (q+t.size)).toList==t.toList)=true:=(by rw [HQ.o];exact HF.o);go_wp2_with fail
   first | go_ret | skip
   rw [ha.o];refine ⟨?_,(HW.o.trans hb.o).symm⟩;show Ending.returned (.int .i64 (q:Nat))=_;rw [HQ.o]
theorem T4 {w w1:World} (hb:Below (w.alloc (.cells #[.int .i64 0,.string ⟨#[]⟩,.int .i64 0] 31)).heap.size (w.alloc (.cells #[.int .i64 0,.string ⟨#[]⟩,.int .i64 0] 31)) w1):
 w1.cell? ⟨w.heap.size,0,none⟩=some (.int .i64 0)∧w1.cell? ⟨w.heap.size,1,none⟩=some (.string ⟨#[]⟩)∧w1.cell? ⟨w.heap.size,2,none⟩=some (.int .i64 0)∧w1.frozen? ⟨w.heap.size,0,none⟩=false∧w1.frozen? ⟨w.heap.size,1,none⟩=false∧w1.frozen? ⟨w.heap.size,2,none⟩=false:=
 bx3 ((hb.block w.heap.size yW).trans (heap_alloc_new w _))
theorem U2 {w w1:World} (h:Below w.heap.size w w1) (a b c:Value):Below w.heap.size w (((w1.setCell ⟨w.heap.size,0,none⟩ a).setCell ⟨w.heap.size,1,none⟩ b).setCell ⟨w.heap.size,2,none⟩ c):=
 ((h.setCell (p:=⟨w.heap.size,0,none⟩) yQ a).setCell (p:=⟨w.heap.size,1,none⟩) yQ b).setCell (p:=⟨w.heap.size,2,none⟩) yQ c
theorem Y0r (c:UInt8) (n:Int) (h:n=(c.toNat:Int)) (w:World):Calls Tryz.prog 137 #[.int .u8 n] w fun e w'=>e=.returned (.agg #[.int .i64 1,.string (⟨#[c]⟩:ByteArray),.int .i64 0])∧Below w.heap.size w w':=by
 subst h;exact Q1q c w
theorem Z6t (s:ByteArray) (c:UInt8) (r:List UInt8) (w:World) (hs:s.data.toList=c::r) (hc:c≠34∧c≠123):
 Calls Tryz.prog 90 #[.string s] w (El7 1 ⟨#[c]⟩ 1 w):=by
 have he:0 < s.size:=(by rw [Lib.size_eq,hs];simp);have ha:=at0 s c _ hs he;have n34:((s[0].toNat:Int)==34)=false:=X8 s[0] 34 (by rw [ha];exact hc.1);have n123:((s[0].toNat:Int)==123)=false:=X8 s[0] 123 (by rw [ha];exact hc.2);have CT:=zW (fun W=>Q1q s[0] W);have hd:=zW ha;have HA:=zW ((Below.refl w.heap.size w).alloc yQ (.cells #[.int .i64 0,.string ⟨#[]⟩,.int .i64 0] 31));clear hs hc ha;go_enter Tryz.func90,Tryz.ntmps90
 go_wp2_with (first
  | (go_at_call 137;refine (CT.o _).mono ?_;rintro e w1 ⟨rfl,hb⟩;obtain ⟨z0,z1,z2,y0,y1,y2⟩:=T4 hb;have HB:=zW (HA.o.trans (hb.mono HA.o.size));clear hb))
 refine bodyPost_ret (E5 rfl _ _ w.heap.size 1 0 ⟨#[s[0]]⟩ _ rfl rfl yU yU yU) rfl ?_;rw [hd.o];exact ⟨rfl,U2 HB.o _ _ _⟩
theorem Z6s (s:ByteArray) (r:List UInt8) (w:World) (hs:s.data.toList=34::34::r):
 Calls Tryz.prog 90 #[.string s] w (El7 1 ⟨#[34]⟩ 2 w):=by
 have hc:0 < s.size:=(by rw [Lib.size_eq,hs];simp);have ha:=at0 s 34 _ hs hc;have n34:((s[0].toNat:Int)==34)=true:=(by rw [ha];rfl);have CB:=zW (fun W=>N2 s (⟨#[34,34]⟩:ByteArray) true (by rw [hs];exact L1 [34,34] r) W (by show (2:Nat)≤_;decide));have CT:=zW (fun W=>Y0r 34 34 rfl W);have HA:=zW ((Below.refl w.heap.size w).alloc yQ (.cells #[.int .i64 0,.string ⟨#[]⟩,.int .i64 0] 31));clear hs ha;go_enter Tryz.func90,Tryz.ntmps90
 go_wp2_with (first
  | (go_at_call 136;refine (CB.o _).mono ?_;rintro e w' ⟨rfl,rfl⟩)
  | (go_at_call 137;refine (CT.o _).mono ?_;rintro e w1 ⟨rfl,hb⟩;obtain ⟨z0,z1,z2,y0,y1,y2⟩:=T4 hb;have HB:=zW (HA.o.trans (hb.mono HA.o.size));clear hb))
 refine bodyPost_ret (E5 rfl _ _ w.heap.size 1 0 ⟨#[34]⟩ _ rfl rfl yU yU yU) rfl ?_;exact ⟨rfl,U2 HB.o _ _ _⟩
theorem Z0m (s:ByteArray) (r:List UInt8) (w:World) (hs:s.data.toList=123::123::r):
 Calls Tryz.prog 90 #[.string s] w (El7 1 ⟨#[123]⟩ 2 w):=by
 have hc:0 < s.size:=(by rw [Lib.size_eq,hs];simp);have ha:=at0 s 123 _ hs hc;have n34:((s[0].toNat:Int)==34)=false:=X8 s[0] 34 (by rw [ha];decide);have n123:((s[0].toNat:Int)==123)=true:=(by rw [ha];rfl);have CB:=zW (fun W=>N2 s (⟨#[123,123]⟩:ByteArray) true (by rw [hs];exact L1 [123,123] r) W (by show (2:Nat)≤_;decide));have CT:=zW (fun W=>Y0r 123 123 rfl W);have HA:=zW ((Below.refl w.heap.size w).alloc yQ (.cells #[.int .i64 0,.string ⟨#[]⟩,.int .i64 0] 31));clear hs ha;go_enter Tryz.func90,Tryz.ntmps90
 go_wp2_with (first
  | (go_at_call 136;refine (CB.o _).mono ?_;rintro e w' ⟨rfl,rfl⟩)
  | (go_at_call 137;refine (CT.o _).mono ?_;rintro e w1 ⟨rfl,hb⟩;obtain ⟨z0,z1,z2,y0,y1,y2⟩:=T4 hb;have HB:=zW (HA.o.trans (hb.mono HA.o.size));clear hb))
 refine bodyPost_ret (E5 rfl _ _ w.heap.size 1 0 ⟨#[123]⟩ _ rfl rfl yU yU yU) rfl ?_;exact ⟨rfl,U2 HB.o _ _ _⟩
theorem Y7i (s nm:ByteArray) (r:List UInt8) (w:World) (hs:s.data.toList=123::nm.data.toList++125::r) (hn:V8 nm.data.toList=true) (hsz1:s.size≤1000000):
 Calls Tryz.prog 90 #[.string s] w (El7 5 nm (nm.size+2) w):=by
 have hc:0 < s.size:=(by rw [Lib.size_eq,hs];simp);have ha:=at0 s 123 _ hs hc;have n34:((s[0].toNat:Int)==34)=false:=X8 s[0] 34 (by rw [ha];decide);have n123:((s[0].toNat:Int)==123)=true:=(by rw [ha];rfl);have CSL:=zW (fun W=>X2v s nm r W hs hn hsz1);have CB:=zW (fun W=>N2 s (⟨#[123,123]⟩:ByteArray) false (by
  rw [hs];cases hl:nm.data.toList with
  | nil=>rw [hl] at hn;cases hn
  | cons a l=>
    show Lib.hasPrefix (123::a::(l++125::r)) [123,123]=false;unfold Lib.hasPrefix;rw [List.isPrefixOf,List.isPrefixOf];have:(123==a)=false:=by
     have:=I7 nm.data.toList hn 123 yW a (by rw [hl];simp);simpa using fun e:123=a=>this e.symm
    simp [this]) W (by show (2:Nat)≤_;decide))
 have HA:=zW ((Below.refl w.heap.size w).alloc yQ (.cells #[.int .i64 0,.string ⟨#[]⟩,.int .i64 0] 31));clear hs hn ha;go_enter Tryz.func90,Tryz.ntmps90
 go_wp2_with (first
  | (go_at_call 136;refine (CB.o _).mono ?_;rintro e w' ⟨rfl,rfl⟩)
  | (go_at_call 138;refine (CSL.o _).mono ?_;rintro e w1 ⟨rfl,hb⟩;obtain ⟨z0,z1,z2,y0,y1,y2⟩:=T4 hb;have HB:=zW (HA.o.trans (hb.mono HA.o.size));clear hb))
 refine bodyPost_ret (E5 rfl _ _ w.heap.size 5 0 nm _ rfl rfl yU yU yU) rfl ?_;exact ⟨rfl,U2 HB.o _ _ _⟩
theorem Z0n (s:ByteArray) (r l:List UInt8) (x:Tk) (w:World) (hs:s.data.toList=r++l) (hsz:s.size≤1000000) (h:ElOk 3 r (some x)):
 Calls Tryz.prog 90 #[.string s] w (El7 x.k x.t r.length w):=by
 generalize hf:(3:Int)=fmt at h;generalize ho:some x=o at h;cases h with
 | slot _ n hn=>
   injection ho with ho;subst ho;have:=Y7i s (ofL n) l w (by rw [hs];simp [ofL]) (by simpa [ofL] using hn) hsz;rw [Q6] at this;have hl:(123::n++[125]:List UInt8).length=n.length+2:=yW;rw [hl];exact this
 | ch3 c hc=>
   injection ho with ho;subst ho;exact Z6t s c l w hs hc
 | two c hc=>
   injection ho with ho;subst ho;rcases hc with rfl | rfl
   ·exact Z6s s l w hs
   ·exact Z0m s l w hs
 | ch1 c hc=>cases hf
 | ref r c hr=>cases hf
 | opn t d ht hb=>cases hf
 | cls t d ht hb=>cases hf
 | emp t d ht hb=>cases hf
 | ch2 c hc=>cases hf
 | esc e c he=>cases hf
 | cont b hb=>cases hf
theorem V5k (s:ByteArray) (c:UInt8) (r:List UInt8) (w:World) (hs:s.data.toList=c::r) (hc:c≠10∧c≠123∧c≠92):
 Calls Tryz.prog 89 #[.string s] w (El7 1 ⟨#[c]⟩ 1 w):=by
 have he:0 < s.size:=(by rw [Lib.size_eq,hs];simp);have ha:=at0 s c _ hs he;have n10:((s[0].toNat:Int)==10)=false:=X8 s[0] 10 (by rw [ha];exact hc.1);have n123:((s[0].toNat:Int)==123)=false:=X8 s[0] 123 (by rw [ha];exact hc.2.1);have n92:((s[0].toNat:Int)==92)=false:=X8 s[0] 92 (by rw [ha];exact hc.2.2);have CT:=zW (fun W=>Q1q s[0] W);have hd:=zW ha;have HA:=zW ((Below.refl w.heap.size w).alloc yQ (.cells #[.int .i64 0,.string ⟨#[]⟩,.int .i64 0] 31));clear hs hc ha;go_enter Tryz.func89,Tryz.ntmps89
 go_wp2_with (first
  | (go_at_call 137;refine (CT.o _).mono ?_;rintro e w1 ⟨rfl,hb⟩;obtain ⟨z0,z1,z2,y0,y1,y2⟩:=T4 hb;have HB:=zW (HA.o.trans (hb.mono HA.o.size));clear hb))
 refine bodyPost_ret (E5 rfl _ _ w.heap.size 1 0 ⟨#[s[0]]⟩ _ rfl rfl yU yU yU) rfl ?_;rw [hd.o];exact ⟨rfl,U2 HB.o _ _ _⟩
theorem Z6j (s nm:ByteArray) (r:List UInt8) (w:World) (hs:s.data.toList=123::nm.data.toList++125::r) (hn:V8 nm.data.toList=true) (hsz1:s.size≤1000000):
 Calls Tryz.prog 89 #[.string s] w (El7 5 nm (nm.size+2) w):=by
 have hc:0 < s.size:=(by rw [Lib.size_eq,hs];simp);have ha:=at0 s 123 _ hs hc;have n10:((s[0].toNat:Int)==10)=false:=X8 s[0] 10 (by rw [ha];decide);have n123:((s[0].toNat:Int)==123)=true:=(by rw [ha];rfl);have CSL:=zW (fun W=>X2v s nm r W hs hn hsz1);have HA:=zW ((Below.refl w.heap.size w).alloc yQ (.cells #[.int .i64 0,.string ⟨#[]⟩,.int .i64 0] 31));clear hs hn ha;go_enter Tryz.func89,Tryz.ntmps89
 go_wp2_with (first
  | (go_at_call 138;refine (CSL.o _).mono ?_;rintro e w1 ⟨rfl,hb⟩;obtain ⟨z0,z1,z2,y0,y1,y2⟩:=T4 hb;have HB:=zW (HA.o.trans (hb.mono HA.o.size));clear hb))
 refine bodyPost_ret (E5 rfl _ _ w.heap.size 5 0 nm _ rfl rfl yU yU yU) rfl ?_;exact ⟨rfl,U2 HB.o _ _ _⟩
def ek:Nat→UInt8 | 0=>110 | 1=>116 | 2=>115 | 3=>114 | 4=>92 | _=>123
def ev:Nat→UInt8 | 0=>10 | 1=>9 | 2=>32 | 3=>13 | 4=>92 | _=>123
theorem V6o {j:Nat} (h:j < 6):∀ W,(Instr.index 202 (.agg #[.string (⟨#[110,10]⟩:ByteArray),.string (⟨#[116,9]⟩:ByteArray),.string (⟨#[115,32]⟩:ByteArray),.string (⟨#[114,13]⟩:ByteArray),.string (⟨#[92,92]⟩:ByteArray),.string (⟨#[123,123]⟩:ByteArray)]) (.int .i64 (j:Int))).run Tryz.prog W=.ok (.string (⟨#[ek j,ev j]⟩:ByteArray)) W:=by
 rcases (show j=0∨j=1∨j=2∨j=3∨j=4∨j=5 by omega) with rfl | rfl | rfl | rfl | rfl | rfl<;>exact fun _=>yZ
theorem V8z:∀ i,i < 6→∀ j,j < 6→i≠j→ek i≠ek j:=yX
theorem V9a:∀ i,i < 6→(10:UInt8)≠ek i:=yX
theorem V9w (s:ByteArray) (c:UInt8) (r:List UInt8) (hs:s.data.toList=92::c::r):∃ h:1 < s.size,s[1]=c∧((s[0].toNat:Int)==10)=false∧((s[0].toNat:Int)==123)=false∧((s[0].toNat:Int)==92)=true:=by
 have hd:0 < s.size:=(by rw [Lib.size_eq,hs];simp);have ha:=at0 s 92 _ hs hd;have hb:1 < s.size:=(by rw [Lib.size_eq,hs];simp);have hc:s[1]=c:=by
  have:s.data.toList[1]'(by rw [hs];simp)=c:=(by simp only [hs];rfl);exact this
 exact ⟨hb,hc,X8 s[0] 10 (by rw [ha];decide),X8 s[0] 123 (by rw [ha];decide),by rw [ha];rfl⟩
theorem Q3z (K:Nat) (hK:K < 6) (s:ByteArray) (r:List UInt8) (w:World) (hs:s.data.toList=92::ek K::r):
 Calls Tryz.prog 89 #[.string s] w (El7 1 ⟨#[ev K]⟩ 2 w):=by
 obtain ⟨R,he⟩:∃ R:Ending→World→Prop,yK (R=El7 1 ⟨#[ev K]⟩ 2 w):=⟨_,rfl⟩;rw [←he.o];obtain ⟨hn,hh,n10,n123,n92⟩:=V9w s _ r hs;have hl:(1:Int) < (s.size:Int):=yY;have hm:(0:Int)≤1:=yX;have h2:¬ ((s.size:Int) < 2):=yY;have HC:=zW hh;have HA:=zW ((Below.refl w.heap.size w).alloc yQ (.cells #[.int .i64 0,.string ⟨#[]⟩,.int .i64 0] 31));clear hs hh;go_enter Tryz.func89,Tryz.ntmps89
 go_wp2_with fail
 go_loopg [25] 7 (fun gk iv wr=>∃ k q:Nat,iv=.int .i64 k∧k≤K∧yK (wr=(w.alloc (.cells #[.int .i64 0,.string ⟨#[]⟩,.int .i64 0] 31)).drewN q)∧7 - k≤gk)
 case atStart=>exact ⟨0,0,rfl,Nat.zero_le _,rfl,yQ⟩
 case round=>
  obtain ⟨k,q,rfl,hk,HW,hgk⟩:=hrel;have hi:=HW.o;subst hi;have hj:=zW (Q1 (Below.refl (w.alloc (.cells #[.int .i64 0,.string ⟨#[]⟩,.int .i64 0] 31)).heap.size (w.alloc (.cells #[.int .i64 0,.string ⟨#[]⟩,.int .i64 0] 31))) q);have ho:(k:Int) < 6:=yY;have x0:=V6o (j:=k) yY;have hd:=zW (V8z K hK k yY);have hc:yK (k=K→ev k=ev K):=fun e=>by rw [e]
  have ha:yK (k=K→ek K=ek k):=fun e=>by rw [e]
  generalize ek k=a at *;generalize ev k=b at *;have l0:∀ h,((⟨#[a,b]⟩:ByteArray)[0]'h).toNat=a.toNat:=fun _=>rfl;have m0:∀ h,((⟨#[a,b]⟩:ByteArray)[1]'h).toNat=b.toNat:=fun _=>rfl;by_cases hkK:k=K
  ·have e0:((s[1].toNat:Int)==(a.toNat:Int))=true:=(by rw [HC.o,ha.o hkK];simp);have hg:=hc.o hkK;have CT:=zW (fun W=>Q1q b W);rw [hg] at CT;clear hd hc ha hkK;subst hg;go_wp2_with fail
   go_quiet (fail)
   go_wp2_with (go_at_call 137;go_loud (refine (CT.o _).mono ?_);rintro e w1 ⟨rfl,hf⟩;have hb:Below (w.alloc (.cells #[.int .i64 0,.string ⟨#[]⟩,.int .i64 0] 31)).heap.size (w.alloc (.cells #[.int .i64 0,.string ⟨#[]⟩,.int .i64 0] 31)) w1:=Below.trans (by repeat' (first | exact Below.refl _ _ | refine Q1 ?_ _)) (hf.mono (show (w.alloc (.cells #[.int .i64 0,.string ⟨#[]⟩,.int .i64 0] 31)).heap.size≤_ from yQ));obtain ⟨z0,z1,z2,y0,y1,y2⟩:=T4 hb;have HB:=zW (HA.o.trans (hb.mono HA.o.size));clear hb hf)
   refine bodyPost_ret (E5 rfl _ _ w.heap.size 1 0 ⟨#[ev K]⟩ _ rfl rfl yU yU yU) rfl ?_;rw [he.o];exact ⟨rfl,U2 HB.o _ _ _⟩
  ·have e0:((s[1].toNat:Int)==(a.toNat:Int))=false:=(by rw [HC.o];have:=hd.o (fun e=>hkK e.symm);rw [beq_eq_false_iff_ne];intro e;exact this (UInt8.toNat_inj.1 (by exact_mod_cast e)));clear hd hc ha;go_wp2_with fail
   go_quiet (fail)
   go_wp2_with fail
   go_roundg (6 - k)
   case measure=>omega
   case rel=>exact ⟨k+1,q+nq,by go_num,yY,(by show _=_;first | rfl | rw [World.drewN_drewN]),yY⟩
theorem Z6i (s:ByteArray) (b r:List UInt8) (w:World) (hs:s.data.toList=[92,10]++(b++r)) (hb:∀ c∈b,c=32∨c=9) (hr:r.head? ≠some 32∧r.head? ≠some 9) (hsz1:s.size≤1000000):
 Calls Tryz.prog 89 #[.string s] w (El7 0 ⟨#[]⟩ (b.length+2) w):=by
 obtain ⟨R,hf⟩:∃ R:Ending→World→Prop,yK (R=El7 0 ⟨#[]⟩ (b.length+2) w):=⟨_,rfl⟩;rw [←hf.o];have he:s.size=2+(b.length+r.length):=(by rw [Lib.size_eq,hs];simp;omega);have hj:=zW (L2 s [92,10] (b++r) hs);have hn:=zW hb;have HR:=zW hr;obtain ⟨hw,hg,n10,n123,n92⟩:=V9w s 10 (b++r) hs;have hu:(1:Int) < (s.size:Int):=yY;have hv:(0:Int)≤1:=yX;have h2:¬ ((s.size:Int) < 2):=yY;have d10:((s[1].toNat:Int) != 10)=false:=(by rw [hg];rfl);have HC:=zW hg;have HA:=zW ((Below.refl w.heap.size w).alloc yQ (.cells #[.int .i64 0,.string ⟨#[]⟩,.int .i64 0] 31));have hd:=zW he;clear hs hg hb hr he;go_enter Tryz.func89,Tryz.ntmps89
 go_wp2_with fail
 go_loopg [25] 7 (fun gk iv wr=>∃ k q:Nat,iv=.int .i64 k∧k≤6∧yK (wr=(w.alloc (.cells #[.int .i64 0,.string ⟨#[]⟩,.int .i64 0] 31)).drewN q)∧7 - k≤gk)
 case atStart=>exact ⟨0,0,rfl,Nat.zero_le _,rfl,yQ⟩
 case round=>
  obtain ⟨k,q,rfl,hk,HW,hgk⟩:=hrel;have hi:=HW.o;subst hi;by_cases hk6:k < 6
  ·have hx:(k:Int) < 6:=yY;have x0:=V6o hk6;have hl:=V9a k hk6;generalize ek k=a at *;generalize ev k=bb at *;have l0:∀ h,((⟨#[a,bb]⟩:ByteArray)[0]'h).toNat=a.toNat:=fun _=>rfl;have e0:((s[1].toNat:Int)==(a.toNat:Int))=false:=(by rw [HC.o,beq_eq_false_iff_ne];intro e;exact hl (UInt8.toNat_inj.1 (by exact_mod_cast e)));clear hl;go_wp2_with fail
   go_quiet (fail)
   go_wp2_with fail
   go_roundg (6 - k)
   case measure=>omega
   case rel=>exact ⟨k+1,q+nq,by go_num,yY,(by show _=_;first | rfl | rw [World.drewN_drewN]),yY⟩
  ·obtain rfl:k=6:=yY;go_wp2_with fail
   go_loopg [6] (b.length+1) (fun gk2 iv wz=>∃ m q2:Nat,iv=.int .i64 ((2+m:Nat):Int)∧m≤b.length∧yK (wz=(w.alloc (.cells #[.int .i64 0,.string ⟨#[]⟩,.int .i64 0] 31)).drewN q2)∧b.length+1 - m≤gk2)
   case atStart=>exact ⟨0,q,rfl,Nat.zero_le _,rfl,yQ⟩
   case round=>
    obtain ⟨m,q2,rfl,hm,ho,hq⟩:=hrel;have hi:=ho.o;subst hi;obtain ⟨p,hp⟩:∃ p,p=2+m:=⟨_,rfl⟩;rw [←hp];by_cases hlt:m < b.length
    ·have hh:p < s.size:=(by have:=hd.o;omega);have ht:(p:Int) < (s.size:Int):=yY;have hc:=(hj.o m p yV hp hh).trans (List.getElem_append_left hlt);have ha:=hn.o b[m] (List.getElem_mem hlt);rw [←hc] at ha;have HS:yK ((p:Int)+1=((2+(m+1):Nat):Int)):=(by show _=_;omega);clear hc hp;rcases ha with ha | ha
     ·have f1:((s[p].toNat:Int)==32)=true:=(by rw [ha];rfl);clear ha;go_wp2_with fail
      rw [HS.o];go_roundg (b.length - m)
      case measure=>omega
      case rel=>exact ⟨m+1,q2,rfl,hlt,rfl,yY⟩
     ·have f1:((s[p].toNat:Int)==32)=false:=(by rw [ha];rfl);have f2:((s[p].toNat:Int)==9)=true:=(by rw [ha];rfl);clear ha;go_wp2_with fail
      rw [HS.o];go_roundg (b.length - m)
      case measure=>omega
      case rel=>exact ⟨m+1,q2,rfl,hlt,rfl,yY⟩
    ·obtain rfl:m=b.length:=yY;have HS:yK ((p:Int)=((b.length+2:Nat):Int)):=(by show _=_;omega);cases r with
     | nil=>
       have hy:¬ (p:Int) < (s.size:Int):=(by have:=hd.o;simp at this;omega);clear hp;go_wp2_with fail
       refine bodyPost_ret (E5 rfl _ _ w.heap.size 0 0 ⟨#[]⟩ _ rfl rfl yU yU yU) rfl ?_;rw [hf.o];refine ⟨by rw [←HS.o];rfl,?_⟩;first | exact U2 (Q1 HA.o q2) _ _ _ | exact Q1 (U2 HA.o _ _ _) q2
     | cons c r=>
       have hh:p < s.size:=(by have:=hd.o;simp at this;omega);have ht:(p:Int) < (s.size:Int):=yY;have hc:s[p]=c:=(hj.o b.length p yW hp hh).trans (by rw [List.getElem_append_right yQ];simp);have f1:((s[p].toNat:Int)==32)=false:=X8 s[p] 32 (by rw [hc];intro e;exact HR.o.1 (by rw [e];rfl));have f2:((s[p].toNat:Int)==9)=false:=X8 s[p] 9 (by rw [hc];intro e;exact HR.o.2 (by rw [e];rfl));clear hc hp;go_wp2_with fail
       refine bodyPost_ret (E5 rfl _ _ w.heap.size 0 0 ⟨#[]⟩ _ rfl rfl yU yU yU) rfl ?_;rw [hf.o];refine ⟨by rw [←HS.o];rfl,?_⟩;first | exact U2 (Q1 HA.o q2) _ _ _ | exact Q1 (U2 HA.o _ _ _) q2
theorem X2r (s:ByteArray) (w:World) (hc:N5 s.data.toList=true) (hN:(⟨(M9 s.data.toList).toArray⟩:ByteArray)=ofL (Z1 s.data.toList)):
 Calls Tryz.prog 140 #[.string s] w fun e w'=>e=.returned (.bool true)∧w=w':=by
 obtain ⟨R,hh⟩:∃ R:Ending→World→Prop,yK (R=fun e w'=>e=.returned (.bool true)∧w=w'):=⟨_,rfl⟩;rw [←hh.o];obtain ⟨h1,h2,h3,h4,h5⟩:=U7 _ hc;obtain ⟨l,d,hf,hd⟩:=Q6y _ hc;have hb:=Lib.size_eq s;obtain ⟨k,hk⟩:∃ k,s.size=k+1:=⟨l.length,by rw [hb,hf,List.length_append];rfl⟩;have hp:k+1≤64:=yY;have hq:k < s.size:=yY;have ha:s[k]=d:=by
  have hs:l.length=k:=(by have:=congrArg List.length hf;rw [←hb,List.length_append] at this;simp at this;omega);have:s.data.toList[k]'(by rw [←hb];exact hq)=d:=by
   simp only [hf];rw [List.getElem_append_right yY];simp [hs]
  exact this
 have n1:((s[k].toNat:Int) != 47)=true:=by
  rw [ha,bne_iff_ne];intro e;exact hd (UInt8.toNat_inj.1 (by exact_mod_cast e))
 have t1:¬ (64:Int) < (k:Int)+1:=yY;have CM:=zW (fun w=>B5 s w yY);rw [hN] at CM;have CN:=zW (fun w=>Q2w (ofL (Z1 s.data.toList)) w (by rw [Q6];have:=X1k s.data.toList;unfold maxLen;omega));rw [show (ofL (Z1 s.data.toList)).data.toList=Z1 s.data.toList by simp [ofL],h4] at CN;have hg:yK (∀ (i:Nat) (h:i < s.size),Y3u s[i]=true):=fun i h=>by
  have:=h3 (s.data.toList[i]'(by rw [←hb];exact h)) (List.getElem_mem _);exact this
 have hl:(ofL (Z1 s.data.toList)).size=s.size∨((ofL (Z1 s.data.toList)).size≠s.size∧(ofL (Z1 s.data.toList)).size+1 < s.size):=by
  rw [Q6,hb];rcases Nat.lt_or_ge ((Z1 s.data.toList).length+1) s.data.toList.length with h | h
  ·exact .inr ⟨yY,h⟩
  ·rcases h5 with h5 | h5
   ·exact .inl h5
   ·omega
 rw [hk] at hl;have hm:=zW hl;have ht:(ofL (Z1 s.data.toList)).size≤64:=(by rw [Q6];have:=X1k s.data.toList;omega);clear h1 h2 h3 h4 h5 hf hd ha hc hb hl hN;generalize ofL (Z1 s.data.toList)=a at *;obtain ⟨wo,hj⟩:∃ wo,yK (wo=w):=⟨w,rfl⟩;go_enter Tryz.func140,Tryz.ntmps140
 go_wp2_with fail
 go_loopg [3] (k+1) (fun gk iv wr=>∃ (i:Nat),iv=.int .i64 (i:Nat)∧i≤k+1∧yK (wr=wo)∧k+1 - i≤gk)
 case atStart=>exact ⟨0,rfl,Nat.zero_le _,hj.o.symm,yQ⟩
 case round=>
  obtain ⟨i,rfl,hi,HW,hgk⟩:=hrel;by_cases hlt:i < k+1
  ·have ho:i < s.size:=yY;have he:=hg.o i ho;have hn:=X4i _ he;have hr:32≤s[i].toNat∧s[i].toNat≤126:=by
    unfold Y3u at he;simp only [Bool.and_eq_true,decide_eq_true_eq] at he;exact he.1.1.1.1
   obtain ⟨r1,r2⟩:=hr;have q1:¬ ((s[i].toNat:Int) < 32):=yY;have q2:¬ ((126:Int) < (s[i].toNat:Int)):=yY;have b1:((s[i].toNat:Int)==60)=false:=X8 s[i] 60 hn.1;have b2:((s[i].toNat:Int)==62)=false:=X8 s[i] 62 hn.2.1;have b3:((s[i].toNat:Int)==123)=false:=X8 s[i] 123 hn.2.2.1;have b4:((s[i].toNat:Int)==125)=false:=X8 s[i] 125 hn.2.2.2;clear he hn;go_wp2_with fail
   go_roundg (k+1 - (i+1))
   case measure=>omega
   case rel=>exact ⟨i+1,rfl,hlt,HW.o,yY⟩
  ·obtain rfl:i=k+1:=yY;rcases hm.o with h | ⟨h,h6⟩
   ·have a1:((a.size:Int)==(k:Int)+1)=true:=(by rw [beq_iff_eq];omega);clear h;go_wp2_with (first
     | (go_at_call 36;refine (CM.o _).mono ?_;rintro e w1 ⟨rfl,rfl⟩)
     | (go_at_call 139;refine (CN.o _).mono ?_;rintro e w' ⟨rfl,rfl⟩))
    first | go_ret | skip
    rw [hh.o];exact ⟨rfl,(HW.o.trans hj.o).symm⟩
   ·have a1:((a.size:Int)==(k:Int)+1)=false:=(by rw [beq_eq_false_iff_ne];omega);have a2:(a.size:Int)+1 < (k:Int)+1:=yY;clear h;go_wp2_with (first
     | (go_at_call 36;refine (CM.o _).mono ?_;rintro e w1 ⟨rfl,rfl⟩)
     | (go_at_call 139;refine (CN.o _).mono ?_;rintro e w' ⟨rfl,rfl⟩))
    first | go_ret | skip
    rw [hh.o];exact ⟨rfl,(HW.o.trans hj.o).symm⟩
theorem Y8u (t r:List UInt8) (h:∀ b∈t,b≠62):Lib.index (t++62::r) [62]=(t.length:Int):=by
 have:=X0h [62] (62::r) 0 (by rw [Lib.index,if_pos (by rw [List.isPrefixOf_iff_prefix];exact ⟨r,rfl⟩)];rfl) t (fun i hi=>by
  obtain ⟨q,hq⟩:=Y1p t (62::r) i hi;rw [hq];exact H5 _ _ _ _ (fun e=>h _ (List.getElem_mem hi) e.symm))
 rw [this];simp
theorem X7v (s t:ByteArray) (r:List UInt8) (w:World) (hs:s.data.toList=60::t.data.toList++62::r) (hsz:s.size≤1000000) (hc:N5 t.data.toList=true):
 Calls Tryz.prog 135 #[.string s] w (El7 2 t (t.size+2) w):=by
 have hl:s.size=t.size+2+r.length:=(by rw [Lib.size_eq,hs,Lib.size_eq t];simp;omega);obtain ⟨u,HU⟩:∃ u:ByteArray,yK (u=ofL (t.data.toList)):=⟨ofL (t.data.toList),rfl⟩;have ha:u.data.toList=t.data.toList:=(by rw [HU.o];simp [ofL]);have he:u.size=t.size+0:=(by rw [Lib.size_eq,ha,Lib.size_eq t];simp);have hd:s.data.toList=60::(u.data.toList++62::r):=(by rw [hs,ha];simp);have hb:s.extract 1 (1+(t.size+0))=u:=D7 _ _ _ _ (Q2e (p:=[60]) (q:=62::r) (by rw [hd];simp) rfl (by rw [←Lib.size_eq,he]));have hm:u=t:=(by rw [HU.o];exact Q8y t);have hf:∀ b∈u.data.toList,b≠62:=(by rw [ha];exact (Q0k _ hc).1);have CB:=zW (fun W=>N2 t (⟨#[47]⟩:ByteArray) false (by
  obtain ⟨c,l,e,hh⟩:=E4 _ hc;rw [e];exact Q0u c 47 l [] (O3 c hh 47 yW)) W yX)
 have CC:=zW (fun W=>X2r t W hc rfl);rw [hm] at hb;have hj:0 < t.size:=by
  obtain ⟨c,l,e,hh⟩:=E4 _ hc;rw [Lib.size_eq,e];simp
 have ho:(0:Int) < (t.size:Int):=yY;have hg:((t[t.size - 1].toNat:Int)==47)=false:=by
  obtain ⟨l,d,e,hd⟩:=Q6y _ hc;have hk:t.size=l.length+1:=(by rw [Lib.size_eq,e];simp);have:t[t.size - 1]=d:=by
   have h3:t.data.toList[t.size - 1]'(by rw [←Lib.size_eq];omega)=d:=by
    simp only [e,hk];simp
   exact h3
  rw [this];exact X8 d 47 hd
 have CF:=zW (fun W=>Q7g s (⟨#[62]⟩:ByteArray) 1 (t.size+0) W (by rw [hd];show Lib.index (u.data.toList++62::r) [62]=_;rw [Y8u _ _ hf,←Lib.size_eq,he]) yX hsz yX);have ht:t.size≤1000000:=yY;obtain ⟨n,hn⟩:∃ n,n=t.size+0:=⟨_,rfl⟩;rw [←hn] at hb CF he;have hi:1+n≤s.size:=yY;obtain ⟨p,hp⟩:∃ p,p=1+n:=⟨_,rfl⟩;rw [←hp] at hb CF hi;have hq:1≤p:=yY;have hr:p≤1000002:=yY;have HR:yK ((p:Int)+1=((t.size+2:Nat):Int)):=(by show _=_;omega);have HA:=zW ((Below.refl w.heap.size w).alloc yQ (.cells #[.int .i64 0,.string ⟨#[]⟩,.int .i64 0] 31));clear hs hc hd hl ha HU hf hp;go_enter Tryz.func135,Tryz.ntmps135
 go_wp2_with (first
  | (go_at_call 174;refine (CF.o _).mono ?_;rintro e w' ⟨rfl,rfl⟩)
  | (go_at_call 136;refine (CB.o _).mono ?_;rintro e w' ⟨rfl,rfl⟩)
  | (go_at_call 140;refine (CC.o _).mono ?_;rintro e w' ⟨rfl,rfl⟩))
 refine bodyPost_ret (E5 rfl _ _ w.heap.size 2 0 t _ rfl rfl yU yU yU) rfl ?_;refine ⟨by rw [←HR.o];rfl,?_⟩
 (repeat' (first | with_reducible exact Below.refl _ _ | refine Q1 ?_ _ | refine Below.drew ?_ | refine Below.setCell ?_ yW _ | refine Below.alloc ?_ yW _))
theorem Y7p (s t:ByteArray) (r:List UInt8) (w:World) (hs:s.data.toList=60::t.data.toList++47::62::r) (hsz:s.size≤1000000) (hc:N5 t.data.toList=true):
 Calls Tryz.prog 135 #[.string s] w (El7 4 t (t.size+3) w):=by
 have hl:s.size=t.size+3+r.length:=(by rw [Lib.size_eq,hs,Lib.size_eq t];simp;omega);obtain ⟨u,HU⟩:∃ u:ByteArray,yK (u=ofL (t.data.toList++[47])):=⟨ofL (t.data.toList++[47]),rfl⟩;have ha:u.data.toList=t.data.toList++[47]:=(by rw [HU.o];simp [ofL]);have he:u.size=t.size+1:=(by rw [Lib.size_eq,ha,Lib.size_eq t];simp);have hd:s.data.toList=60::(u.data.toList++62::r):=(by rw [hs,ha];simp);have hf:s.extract 1 (1+(t.size+1))=u:=D7 _ _ _ _ (Q2e (p:=[60]) (q:=62::r) (by rw [hd];simp) rfl (by rw [←Lib.size_eq,he]));have hg:∀ b∈u.data.toList,b≠62:=by
  rw [ha];intro b hb;rcases List.mem_append.1 hb with hb | hb
  ·exact (Q0k _ hc).1 b hb
  ·rw [List.mem_singleton.1 hb];decide
 have hi:u.extract 0 t.size=t:=D7 _ _ _ _ (Q2e (p:=[]) (q:=[47]) (by rw [ha];simp) rfl (by rw [←Lib.size_eq];omega));have CB:=zW (fun W=>N2 u (⟨#[47]⟩:ByteArray) false (by
  obtain ⟨c,l,e,hh⟩:=E4 _ hc;rw [ha,e];exact Q0u c 47 _ [] (O3 c hh 47 yW)) W yX)
 have CC:=zW (fun W=>X2r t W hc rfl);have hj:∀ h,((u[t.size]'h).toNat:Int)=47:=fun h=>by
  have:u[t.size]=47:=by
   have h3:u.data.toList[t.size]'(by rw [←Lib.size_eq];exact h)=47:=by
    simp only [ha];rw [List.getElem_append_right (by rw [←Lib.size_eq];exact yQ)];simp [←Lib.size_eq]
   exact h3
  rw [this];rfl
 have CF:=zW (fun W=>Q7g s (⟨#[62]⟩:ByteArray) 1 (t.size+1) W (by rw [hd];show Lib.index (u.data.toList++62::r) [62]=_;rw [Y8u _ _ hg,←Lib.size_eq,he]) yX hsz yX);have hq:t.size≤1000000:=yY;obtain ⟨n,hn⟩:∃ n,n=t.size+1:=⟨_,rfl⟩;rw [←hn] at hf CF he;have hk:1+n≤s.size:=yY;obtain ⟨p,hp⟩:∃ p,p=1+n:=⟨_,rfl⟩;rw [←hp] at hf CF hk;have hm:1≤p:=yY;have ho:p≤1000002:=yY;have HR:yK ((p:Int)+1=((t.size+3:Nat):Int)):=(by show _=_;omega);have HA:=zW ((Below.refl w.heap.size w).alloc yQ (.cells #[.int .i64 0,.string ⟨#[]⟩,.int .i64 0] 31));clear hs hc hd hl ha HU hg hp;go_enter Tryz.func135,Tryz.ntmps135
 go_wp2_with (first
  | (go_at_call 174;refine (CF.o _).mono ?_;rintro e w' ⟨rfl,rfl⟩)
  | (go_at_call 136;refine (CB.o _).mono ?_;rintro e w' ⟨rfl,rfl⟩)
  | (go_at_call 140;refine (CC.o _).mono ?_;rintro e w' ⟨rfl,rfl⟩))
 refine bodyPost_ret (E5 rfl _ _ w.heap.size 4 0 t _ rfl rfl yU yU yU) rfl ?_;refine ⟨by rw [←HR.o];rfl,?_⟩
 (repeat' (first | with_reducible exact Below.refl _ _ | refine Q1 ?_ _ | refine Below.drew ?_ | refine Below.setCell ?_ yW _ | refine Below.alloc ?_ yW _))
theorem V1u (s t:ByteArray) (r:List UInt8) (w:World) (hs:s.data.toList=60::47::t.data.toList++62::r) (hsz:s.size≤1000000) (hc:V8 t.data.toList=true):
 Calls Tryz.prog 135 #[.string s] w (El7 3 t (t.size+3) w):=by
 have hj:s.size=t.size+3+r.length:=(by rw [Lib.size_eq,hs,Lib.size_eq t];simp;omega);obtain ⟨u,HU⟩:∃ u:ByteArray,yK (u=ofL (47::t.data.toList)):=⟨ofL (47::t.data.toList),rfl⟩;have ha:u.data.toList=47::t.data.toList:=(by rw [HU.o];simp [ofL]);have he:u.size=t.size+1:=(by rw [Lib.size_eq,ha,Lib.size_eq t];simp);have hd:s.data.toList=60::(u.data.toList++62::r):=(by rw [hs,ha];simp);have hf:s.extract 1 (1+(t.size+1))=u:=D7 _ _ _ _ (Q2e (p:=[60]) (q:=62::r) (by rw [hd];simp) rfl (by rw [←Lib.size_eq,he]));have hg:∀ b∈u.data.toList,b≠62:=by
  rw [ha];intro b hb;rcases List.mem_cons.1 hb with rfl | hb
  ·decide
  ·exact I7 _ hc 62 yW b hb
 have hh:u.extract 1 (t.size+1)=t:=D7 _ _ _ _ (Q2e (p:=[47]) (q:=[]) (by rw [ha];simp) rfl (by rw [←Lib.size_eq];omega));have CB:=zW (fun W=>N2 u (⟨#[47]⟩:ByteArray) true (by rw [ha];exact L1 [47] t.data.toList) W yX);have CN:=zW (fun W=>Q2w t W (by unfold maxLen;omega));rw [hc] at CN;have CF:=zW (fun W=>Q7g s (⟨#[62]⟩:ByteArray) 1 (t.size+1) W (by rw [hd];show Lib.index (u.data.toList++62::r) [62]=_;rw [Y8u _ _ hg,←Lib.size_eq,he]) yX hsz yX);have hm:t.size≤1000000:=yY;obtain ⟨n,hn⟩:∃ n,n=t.size+1:=⟨_,rfl⟩;rw [←hn] at hf CF he;have hi:1+n≤s.size:=yY;obtain ⟨p,hp⟩:∃ p,p=1+n:=⟨_,rfl⟩;rw [←hp] at hf CF hi;have hk:1≤p:=yY;have hl:p≤1000002:=yY;have HR:yK ((p:Int)+1=((t.size+3:Nat):Int)):=(by show _=_;omega);have HA:=zW ((Below.refl w.heap.size w).alloc yQ (.cells #[.int .i64 0,.string ⟨#[]⟩,.int .i64 0] 31));clear hs hc hd hj ha HU hg hp;go_enter Tryz.func135,Tryz.ntmps135
 go_wp2_with (first
  | (go_at_call 174;refine (CF.o _).mono ?_;rintro e w' ⟨rfl,rfl⟩)
  | (go_at_call 136;refine (CB.o _).mono ?_;rintro e w' ⟨rfl,rfl⟩)
  | (go_at_call 139;refine (CN.o _).mono ?_;rintro e w' ⟨rfl,rfl⟩))
 refine bodyPost_ret (E5 rfl _ _ w.heap.size 3 0 t _ rfl rfl yU yU yU) rfl ?_;refine ⟨by rw [←HR.o];rfl,?_⟩
 (repeat' (first | with_reducible exact Below.refl _ _ | refine Q1 ?_ _ | refine Below.drew ?_ | refine Below.setCell ?_ yW _ | refine Below.alloc ?_ yW _))
theorem Y7q:∀ (t:List UInt8),(∀ b∈t,b≠32)→Z1 t=t
 | [],_=>rfl
 | c::t,h=>by
   have h1:(c != 32)=true:=(by simpa using h c yW);have h2:=Y7q t (fun b hb=>h b (by simp [hb]));unfold Z1 at h2 ⊢;rw [List.takeWhile_cons,if_pos h1,h2]
theorem Q3w (s:ByteArray) (w:World) (h:J4 s.data.toList=false):Calls Tryz.prog 51 #[.string s] w fun e w'=>e=.returned (.bool false)∧w=w':=by
 rw [←Y4] at h;unfold J4 wP wH wLi wTd X3g at h;simp only [Bool.or_eq_false_iff] at h;obtain ⟨⟨⟨⟨h1,h2⟩,h3⟩,h4⟩,h5⟩:=h;go_enter Tryz.func51,Tryz.ntmps51
 go_wp2_with fail
 go_ret
 exact ⟨rfl,rfl⟩
theorem V7n (s:ByteArray) (c:UInt8) (r:List UInt8) (w:World) (hs:s.data.toList=c::r) (hc:c≠60∧c≠38∧c≠123):
 Calls Tryz.prog 88 #[.string s] w (El7 1 ⟨#[c]⟩ 1 w):=by
 have he:0 < s.size:=(by rw [Lib.size_eq,hs];simp);have ha:=at0 s c _ hs he;have n60:((s[0].toNat:Int)==60)=false:=X8 s[0] 60 (by rw [ha];exact hc.1);have n38:((s[0].toNat:Int)==38)=false:=X8 s[0] 38 (by rw [ha];exact hc.2.1);have n123:((s[0].toNat:Int)==123)=false:=X8 s[0] 123 (by rw [ha];exact hc.2.2);have CT:=zW (fun W=>Q1q s[0] W);have hd:=zW ha;have HA:=zW ((Below.refl w.heap.size w).alloc yQ (.cells #[.int .i64 0,.string ⟨#[]⟩,.int .i64 0] 31));clear hs hc ha;go_enter Tryz.func88,Tryz.ntmps88
 go_wp2_with (first
  | (go_at_call 137;refine (CT.o _).mono ?_;rintro e w1 ⟨rfl,hb⟩;obtain ⟨z0,z1,z2,y0,y1,y2⟩:=T4 hb;have HB:=zW (HA.o.trans (hb.mono HA.o.size));clear hb))
 refine bodyPost_ret (E5 rfl _ _ w.heap.size 1 0 ⟨#[s[0]]⟩ _ rfl rfl yU yU yU) rfl ?_;rw [hd.o];exact ⟨rfl,U2 HB.o _ _ _⟩
theorem V0a (s nm:ByteArray) (r:List UInt8) (w:World) (hs:s.data.toList=123::nm.data.toList++125::r) (hn:V8 nm.data.toList=true) (hsz1:s.size≤1000000):
 Calls Tryz.prog 88 #[.string s] w (El7 5 nm (nm.size+2) w):=by
 have hc:0 < s.size:=(by rw [Lib.size_eq,hs];simp);have ha:=at0 s 123 _ hs hc;have n60:((s[0].toNat:Int)==60)=false:=X8 s[0] 60 (by rw [ha];decide);have n38:((s[0].toNat:Int)==38)=false:=X8 s[0] 38 (by rw [ha];decide);have n123:((s[0].toNat:Int)==123)=true:=(by rw [ha];rfl);have CSL:=zW (fun W=>X2v s nm r W hs hn hsz1);have HA:=zW ((Below.refl w.heap.size w).alloc yQ (.cells #[.int .i64 0,.string ⟨#[]⟩,.int .i64 0] 31));clear hs hn ha;go_enter Tryz.func88,Tryz.ntmps88
 go_wp2_with (first
  | (go_at_call 138;refine (CSL.o _).mono ?_;rintro e w1 ⟨rfl,hb⟩;obtain ⟨z0,z1,z2,y0,y1,y2⟩:=T4 hb;have HB:=zW (HA.o.trans (hb.mono HA.o.size));clear hb))
 refine bodyPost_ret (E5 rfl _ _ w.heap.size 5 0 nm _ rfl rfl yU yU yU) rfl ?_;exact ⟨rfl,U2 HB.o _ _ _⟩
def rfP:Nat→List UInt8 | 0=>[38,108,116,59] | 1=>[38,103,116,59] | 2=>[38,97,109,112,59] | 3=>[38,108,98,59] | _=>[38,114,98,59]
def rfC:Nat→UInt8 | 0=>60 | 1=>62 | 2=>38 | 3=>123 | _=>125
def rfS (j:Nat):ByteArray:=⟨(rfP j++[rfC j]).toArray⟩
theorem V1c:∀ j,j < 5→(rfS j).size=(rfP j).length+1∧(rfS j).extract 0 (rfP j).length=ofL (rfP j)∧(∀ h,((rfS j)[(rfP j).length]'h).toNat=(rfC j).toNat)∧(rfP j).length≤5∧0 < (rfP j).length:=yX
theorem V9p {j:Nat} (h:j < 5):∀ W,(Instr.index 200 (.agg #[.string (⟨#[38,108,116,59,60]⟩:ByteArray),.string (⟨#[38,103,116,59,62]⟩:ByteArray),.string (⟨#[38,97,109,112,59,38]⟩:ByteArray),.string (⟨#[38,108,98,59,123]⟩:ByteArray),.string (⟨#[38,114,98,59,125]⟩:ByteArray)]) (.int .i64 (j:Int))).run Tryz.prog W=.ok (.string (rfS j)) W:=by
 rcases (show j=0∨j=1∨j=2∨j=3∨j=4 by omega) with rfl | rfl | rfl | rfl | rfl<;>exact fun _=>yZ
theorem V8f (K j:Nat) (hK:K < 5) (hj:j < 5) (r:List UInt8):Lib.hasPrefix (rfP K++r) (rfP j)=decide (j=K):=by
 rcases (show K=0∨K=1∨K=2∨K=3∨K=4 by omega) with rfl | rfl | rfl | rfl | rfl<;>rcases (show j=0∨j=1∨j=2∨j=3∨j=4 by omega) with rfl | rfl | rfl | rfl | rfl<;>simp [rfP,Lib.hasPrefix,List.isPrefixOf]
theorem X0k (K:Nat) (hK:K < 5) (s:ByteArray) (r:List UInt8) (w:World) (hs:s.data.toList=rfP K++r):
 Calls Tryz.prog 88 #[.string s] w (El7 1 ⟨#[rfC K]⟩ (rfP K).length w):=by
 obtain ⟨R,he⟩:∃ R:Ending→World→Prop,yK (R=El7 1 ⟨#[rfC K]⟩ (rfP K).length w):=⟨_,rfl⟩;rw [←he.o];obtain ⟨q,hq⟩:∃ q,rfP K=38::q:=⟨(rfP K).tail,by rcases (show K=0∨K=1∨K=2∨K=3∨K=4 by omega) with rfl | rfl | rfl | rfl | rfl<;>rfl⟩;have hi:0 < s.size:=(by rw [Lib.size_eq,hs,hq];simp);have ha:=at0 s 38 _ (by rw [hs,hq];rfl) hi;have n60:((s[0].toNat:Int)==60)=false:=X8 s[0] 60 (by rw [ha];decide);have n38:((s[0].toNat:Int)==38)=true:=(by rw [ha];rfl);have hc:=zW (fun (j:Nat) (hj:j < 5) W=>N2 s (ofL (rfP j)) (decide (j=K)) (by rw [hs];exact V8f K j hK hj r) W (by rw [Q6];have:=(V1c j hj).2.2.2.1;omega));have HA:=zW ((Below.refl w.heap.size w).alloc yQ (.cells #[.int .i64 0,.string ⟨#[]⟩,.int .i64 0] 31));clear hs ha hq;go_enter Tryz.func88,Tryz.ntmps88
 go_wp2_with fail
 go_loopg [32] 6 (fun gk iv wr=>∃ k:Nat,iv=.int .i64 k∧k≤K∧yK (wr=(w.alloc (.cells #[.int .i64 0,.string ⟨#[]⟩,.int .i64 0] 31)))∧6 - k≤gk)
 case atStart=>exact ⟨0,rfl,Nat.zero_le _,rfl,yQ⟩
 case round=>
  obtain ⟨k,rfl,hk,HW,hgk⟩:=hrel;have hl:=HW.o;subst hl;have hm:(k:Int) < 5:=yY;have x0:=V9p (j:=k) yY;obtain ⟨v0,y0,m0,ho,hn⟩:=V1c k yY;have CB:=zW (hc.o k yY);have CT:=zW (fun W=>Q1q (rfC k) W);have hd:yK (k=K→El7 1 ⟨#[rfC k]⟩ (rfP k).length w=R):=fun e=>by rw [e,he.o]
  clear hc;generalize rfS k=u at *;generalize ofL (rfP k)=pu at *;generalize (rfP k).length=nu at *;generalize rfC k=cu at *;have hr:(u.size:Int) - 1=(nu:Int):=yY;have hp:(nu:Int) < (u.size:Int):=yY;have hg:nu < u.size:=yY;have hh:(nu:Int)≤(u.size:Int):=yY;by_cases hkK:k=K
  ·rw [decide_eq_true hkK] at CB;have hf:=zW (hd.o hkK);clear hd hkK;go_wp2_with (first
    | (go_at_call 136;refine (CB.o _).mono ?_;rintro e w' ⟨rfl,rfl⟩)
    | (go_at_call 137;refine (CT.o _).mono ?_;rintro e w1 ⟨rfl,hb⟩;obtain ⟨z0,z1,z2,y0,y1,y2⟩:=T4 hb;have HB:=zW (HA.o.trans (hb.mono HA.o.size));clear hb))
   refine bodyPost_ret (E5 rfl _ _ w.heap.size 1 0 ⟨#[cu]⟩ _ rfl rfl yU yU yU) rfl ?_;rw [←hf.o];exact ⟨rfl,U2 HB.o _ _ _⟩
  ·rw [decide_eq_false hkK] at CB;go_wp2_with (go_at_call 136;refine (CB.o _).mono ?_;rintro e w' ⟨rfl,rfl⟩)
   go_roundg (5 - k)
   case measure=>omega
   case rel=>exact ⟨k+1,by go_num,yY,rfl,yY⟩
theorem Y1y (s t:ByteArray) (r:List UInt8) (k:Int) (n:Nat) (w:World) (hs:s.data.toList=60::r) (CT:∀ W,Calls Tryz.prog 135 #[.string s] W (El7 k t n W)) (hn:0 < n) (hb:J4 (Z1 t.data.toList)=false) (hts:t.size≤1000000):
 Calls Tryz.prog 88 #[.string s] w (El7 k t n w):=by
 have hc:0 < s.size:=(by rw [Lib.size_eq,hs];simp);have ha:=at0 s 60 _ hs hc;have n60:((s[0].toNat:Int)==60)=true:=(by rw [ha];rfl);have CTT:=zW CT;have CN:=zW (fun W=>B5 t W hts);rw [show (⟨(M9 t.data.toList).toArray⟩:ByteArray)=ofL (Z1 t.data.toList) from rfl] at CN;have CB:=zW (fun W=>Q3w (ofL (Z1 t.data.toList)) W (by simpa [ofL] using hb));have he:((n:Int)==0)=false:=(by rw [beq_eq_false_iff_ne];omega);have HA:=zW ((Below.refl w.heap.size w).alloc yQ (.cells #[.int .i64 0,.string ⟨#[]⟩,.int .i64 0] 31));clear hs ha CT hb;go_enter Tryz.func88,Tryz.ntmps88
 go_wp2_with (first
  | (go_at_call 135;refine (CTT.o _).mono ?_;rintro e w1 ⟨rfl,hb⟩;obtain ⟨z0,z1,z2,y0,y1,y2⟩:=T4 hb;have HB:=zW (HA.o.trans (hb.mono HA.o.size));have hd:w.heap.size < w1.heap.size:=Nat.lt_of_lt_of_le yW hb.size;clear hb)
  | (go_at_call 36;refine (CN.o _).mono ?_;rintro e w' ⟨rfl,rfl⟩)
  | (go_at_call 51;refine (CB.o _).mono ?_;rintro e w' ⟨rfl,rfl⟩))
 refine bodyPost_ret (E5 rfl _ _ w.heap.size k 0 t _ rfl rfl yU yU yU) rfl ?_;refine ⟨rfl,?_⟩;exact (U2 HB.o _ _ _).alloc yV _
theorem V4j (s:ByteArray) (r l:List UInt8) (x:Tk) (w:World) (hs:s.data.toList=r++l) (hsz:s.size≤1000000) (h:ElOk 1 r (some x)):
 Calls Tryz.prog 88 #[.string s] w (El7 x.k x.t r.length w):=by
 generalize hf:(1:Int)=fmt at h;generalize ho:some x=o at h;have ha:s.size=r.length+l.length:=(by rw [Lib.size_eq,hs,List.length_append]);cases h with
 | slot _ n hn=>
   injection ho with ho;subst ho;have:=V0a s (ofL n) l w (by rw [hs];simp [ofL]) (by simpa [ofL] using hn) hsz;rw [Q6] at this;have hl:(123::n++[125]:List UInt8).length=n.length+2:=yW;rw [hl];exact this
 | ch1 c hc=>
   injection ho with ho;subst ho;exact V7n s c l w hs hc
 | ref r c hr=>
   injection ho with ho;subst ho;simp only [X3w,List.mem_cons,List.not_mem_nil,or_false,Prod.mk.injEq] at hr;rcases hr with ⟨rfl,rfl⟩ | ⟨rfl,rfl⟩ | ⟨rfl,rfl⟩ | ⟨rfl,rfl⟩ | ⟨rfl,rfl⟩
   ·exact X0k 0 yX s l w hs
   ·exact X0k 1 yX s l w hs
   ·exact X0k 2 yX s l w hs
   ·exact X0k 3 yX s l w hs
   ·exact X0k 4 yX s l w hs
 | opn t d ht hb=>
   injection ho with ho;subst ho;have hl:(60::t++[62]:List UInt8).length=t.length+2:=yW;have hh:s.data.toList=60::(ofL t).data.toList++62::l:=(by rw [hs];simp [ofL]);have CT:=fun W=>X7v s (ofL t) l W hh hsz (by simpa [ofL] using ht);rw [Q6] at CT;rw [hl] at ha ⊢;exact Y1y s (ofL t) _ 2 (t.length+2) w hh CT yY (by simpa [ofL] using hb) (by rw [Q6];omega)
 | cls t d ht hb=>
   injection ho with ho;subst ho;have hl:(60::47::t++[62]:List UInt8).length=t.length+3:=yW;have hh:s.data.toList=60::47::(ofL t).data.toList++62::l:=(by rw [hs];simp [ofL]);have CT:=fun W=>V1u s (ofL t) l W hh hsz (by simpa [ofL] using ht);rw [Q6] at CT;rw [hl] at ha ⊢;have hd:Z1 t=t:=Y7q t (I7 t ht 32 yW);exact Y1y s (ofL t) _ 3 (t.length+3) w hh CT yY (by rw [show (ofL t).data.toList=t by simp [ofL],hd];exact hb) (by rw [Q6];omega)
 | emp t d ht hb=>
   injection ho with ho;subst ho;have hl:(60::t++[47,62]:List UInt8).length=t.length+3:=yW;have hh:s.data.toList=60::(ofL t).data.toList++47::62::l:=(by rw [hs];simp [ofL]);have CT:=fun W=>Y7p s (ofL t) l W hh hsz (by simpa [ofL] using ht);rw [Q6] at CT;rw [hl] at ha ⊢;exact Y1y s (ofL t) _ 4 (t.length+3) w hh CT yY (by simpa [ofL] using hb) (by rw [Q6];omega)
 | ch2 c hc=>cases hf
 | esc e c he=>cases hf
 | cont b hb=>cases hf
 | ch3 c hc=>cases hf
 | two c hc=>cases hf
theorem V1a (s:ByteArray) (r l:List UInt8) (o:Option Tk) (w:World) (hs:s.data.toList=r++l) (hsz:s.size≤1000000) (h:ElOk 2 r o) (hl:o=none→l.head? ≠some 32∧l.head? ≠some 9):
 Calls Tryz.prog 89 #[.string s] w (El7 ((o.map (·.k)).getD 0) ((o.map (·.t)).getD ⟨#[]⟩) r.length w):=by
 generalize hf:(2:Int)=fmt at h;cases h with
 | slot _ n hn=>
   have:=Z6j s (ofL n) l w (by rw [hs];simp [ofL]) (by simpa [ofL] using hn) hsz;rw [Q6] at this;have hl:(123::n++[125]:List UInt8).length=n.length+2:=yW;rw [hl];exact this
 | ch2 c hc=>exact V5k s c l w hs ⟨hc.1,hc.2.2,hc.2.1⟩
 | esc e c he=>
   simp only [Y8m,List.mem_cons,List.not_mem_nil,or_false,Prod.mk.injEq] at he;rcases he with ⟨rfl,rfl⟩ | ⟨rfl,rfl⟩ | ⟨rfl,rfl⟩ | ⟨rfl,rfl⟩ | ⟨rfl,rfl⟩ | ⟨rfl,rfl⟩
   ·exact Q3z 0 yX s l w hs
   ·exact Q3z 1 yX s l w hs
   ·exact Q3z 2 yX s l w hs
   ·exact Q3z 3 yX s l w hs
   ·exact Q3z 4 yX s l w hs
   ·exact Q3z 5 yX s l w hs
 | cont b hb=>exact Z6i s b l w (by rw [hs];rfl) hb (hl rfl) hsz
 | ch1 c hc=>cases hf
 | ref r c hr=>cases hf
 | opn t d ht hb=>cases hf
 | cls t d ht hb=>cases hf
 | emp t d ht hb=>cases hf
 | ch3 c hc=>cases hf
 | two c hc=>cases hf
theorem M2 (k:Int) (t:ByteArray) (d:Int) (w:World) (b:Bool) (h:b=decide (k=2∨k=3∨k=4)):
 Calls Tryz.prog 50 #[.agg #[.int .i64 k,.string t,.int .i64 d]] w fun e w'=>e=.returned (.bool b)∧Below w.heap.size w w':=by
 have HB:=zW ((Below.refl w.heap.size w).alloc yQ (.cells #[.int .i64 k,.string t,.int .i64 d] 31));by_cases h2:k=2
 ·subst h2;obtain rfl:b=true:=(by rw [h];decide);clear h;go_enter Tryz.func50,Tryz.ntmps50
  go_wp2_with fail
  go_ret
  exact ⟨rfl,HB.o⟩
 ·have t2:(k==2)=false:=(by simpa using h2);by_cases h3:k=3
  ·subst h3;obtain rfl:b=true:=(by rw [h];decide);clear h;go_enter Tryz.func50,Tryz.ntmps50
   go_wp2_with fail
   go_ret
   exact ⟨rfl,HB.o⟩
  ·have t3:(k==3)=false:=(by simpa using h3);by_cases h4:k=4
   ·subst h4;obtain rfl:b=true:=(by rw [h];decide);clear h;go_enter Tryz.func50,Tryz.ntmps50
    go_wp2_with fail
    go_ret
    exact ⟨rfl,HB.o⟩
   ·have t4:(k==4)=false:=(by simpa using h4);obtain rfl:b=false:=(by rw [h];simp [h2,h3,h4]);clear h;go_enter Tryz.func50,Tryz.ntmps50
    go_wp2_with fail
    go_ret
    exact ⟨rfl,HB.o⟩
theorem Y9z (f:List Tk) (A:Option Addr) (c:Nat) (xk:Int) (xt:ByteArray) (xd:Int) (w:World) (h1:RdT w (.slice A f.length c) f) (hfl:f.length≤1000000) (hw:WfI ⟨xk,xt,xd⟩)
 (htx:xk=1→xt.size≠0∧xd=0∧∀ y,f.getLast? =some y→y.k≠1) (hxs:xt.size≤1000000) (hs:∀ y∈f,y.t.size≤1000000) (hfit:∀ y∈f,Y0w y ⟨xk,xt,xd⟩):
 Calls Tryz.prog 92 #[.slice A f.length c,.agg #[.int .i64 xk,.string xt,.int .i64 xd]] w fun e w'=>e=.returned (.int .i64 0)∧Below w.heap.size w w':=by
 obtain ⟨R,hx⟩:∃ R:Ending→World→Prop,yK (R=fun e w'=>e=.returned (.int .i64 0)∧Below w.heap.size w w'):=⟨_,rfl⟩;rw [←hx.o];have hf:yK ((w.alloc (.cells #[.int .i64 xk,.string xt,.int .i64 xd] 31)).heap[w.heap.size]? =some (.cells #[.int .i64 xk,.string xt,.int .i64 xd] 31)):=Array.getElem?_push_size;have hm:=zW ((Below.refl w.heap.size w).alloc yQ (.cells #[.int .i64 xk,.string xt,.int .i64 xd] 31));have H1:yK (RdT (w.alloc (.cells #[.int .i64 xk,.string xt,.int .i64 xd] 31)) (.slice A f.length c) f):=RdE.alloc h1 _;have he:w.heap.size < (w.alloc (.cells #[.int .i64 xk,.string xt,.int .i64 xd] 31)).heap.size:=yW;have hC:=zW hs;have HF:=zW hfit;have CN:=zW (fun w=>Q2w xt w (by unfold maxLen;omega));obtain ⟨p,hp⟩:∃ p,yK (p=w.heap.size):=⟨_,rfl⟩;have hz:∀ (G:World) (b:Bool),True:=fun _ _=>trivial;clear h1 hs hfit hz;rcases hw with hk | ⟨hk,hnm,hd⟩ | ⟨hk,hct,hd1,hd2⟩ | ⟨hk,hnm,hd1,hd2⟩
 ·have hk':xk=1:=hk;subst hk';obtain ⟨a1,a2,a3⟩:=htx rfl;subst a2;have hr:(xt.toList==[])=false:=by
   rw [beq_eq_false_iff_ne,Y4];intro h;exact a1 (by rw [Lib.size_eq,h];rfl)
  clear a1 htx;rcases List.eq_nil_or_concat f with rfl | ⟨f2,y,rfl⟩
  ·go_enter Tryz.func92,Tryz.ntmps92
   go_wp2_with fail
   first | go_ret | skip
   rw [hx.o];exact ⟨rfl,hm.o⟩
  ·rw [List.concat_eq_append] at *;have hy:=a3 y yW;obtain ⟨b,o,hA,hn,p0,p1,p2⟩:=RdT.at_ H1.o f2.length yW;subst hA;have hG:(f2++[y])[f2.length]'yW=y:=yW;rw [hG] at p0;have hJ:(y.k==1)=false:=(by simpa using hy);have hl:(f2++[y]).length=f2.length+1:=yW;rw [hl] at hfl ⊢;clear hy a3 p1 p2 hG hl;generalize f2.length=n at *;have hI:(((n+1:Nat):Int) - 1)=(n:Int):=yY;have hH:(0:Int) < ((n+1:Nat):Int):=yY;go_enter Tryz.func92,Tryz.ntmps92
   go_wp2_with fail
   first | go_ret | skip
   rw [hx.o];exact ⟨rfl,hm.o⟩
 ·have hk':xk=5:=hk;have hd':xd=0:=hd;subst hk' hd';rw [show V8 xt.data.toList=true from hnm] at CN;clear htx hnm;go_enter Tryz.func92,Tryz.ntmps92
  go_wp2_with (go_at_call 139;refine (CN.o _).mono ?_;rintro e w' ⟨rfl,rfl⟩)
  first | go_ret | skip
  rw [hx.o];exact ⟨rfl,hm.o⟩
 ·have hd1':(1:Int)≤xd:=hd1;have hd2':xd≤999:=hd2;have CC:=zW (fun w=>X2r xt w hct rfl);clear htx hct CN hd1 hd2;have u1:¬ xd < 1:=yY;have u2:¬ (999:Int) < xd:=yY;rcases hk with hk | hk
  ·have hk':xk=2:=hk;subst hk';go_enter Tryz.func92,Tryz.ntmps92
   go_upto_region 1 with fail
   rw [←hp.o] at hf he ⊢;generalize w.alloc (.cells #[.int .i64 2,.string xt,.int .i64 xd] 31)=w0 at hf hm H1 he ⊢;obtain ⟨x0,x1,x2,_⟩:=bx3 hf.o;go_wp2_with (go_at_call 140;refine (CC.o _).mono ?_;rintro e w' ⟨rfl,rfl⟩)
   go_loopg [80] f.length (fun gk iv wr=>∃ i:Nat,iv=.int .i64 i∧i≤f.length∧yK (Below w0.heap.size w0 wr)∧f.length - i≤gk)
   case atStart=>exact ⟨0,rfl,Nat.zero_le _,Below.refl _ _,yQ⟩
   case round=>
    obtain ⟨i,rfl,hi,HB,hgk⟩:=hrel;by_cases hlt:i < f.length
    ·have hF:(i:Int) < (f.length:Int):=yY;have hE:(0:Int)≤(i:Int):=yY;obtain ⟨b,o,hA,hn,p0,p1,p2⟩:=RdT.at_ H1.o i hlt;subst hA;have hc:=List.getElem_mem hlt;have hv:=hC.o _ hc;have hg:=HF.o _ hc;clear hc;generalize f[i]=y at p0 p1 p2 hv hg;obtain ⟨yk,yt,yd⟩:=y;simp only at p0 p1 p2 hv;have q0:=(HB.o.cell (p:=⟨b,o+i * 3,none⟩) hn).trans p0;have q1:=(HB.o.cell (p:=⟨b,o+i * 3+1,none⟩) hn).trans p1;have q2:=(HB.o.cell (p:=⟨b,o+i * 3+2,none⟩) hn).trans p2;clear p0 p1 p2;have hB:=HB.o.size;have HY:yK ((wr.alloc (.cells #[.int .i64 yk,.string yt,.int .i64 yd] 31)).heap[wr.heap.size]? =some (.cells #[.int .i64 yk,.string yt,.int .i64 yd] 31)):=Array.getElem?_push_size;have hb:=zW (HB.o.alloc hB (.cells #[.int .i64 yk,.string yt,.int .i64 yd] 31));have hh:wr.heap.size < (wr.alloc (.cells #[.int .i64 yk,.string yt,.int .i64 yd] 31)).heap.size:=yW;obtain ⟨q,hq⟩:∃ q,yK (q=wr.heap.size):=⟨_,rfl⟩;go_upto_region 22 with fail
     rw [←hq.o] at HY hh ⊢;generalize wr.alloc (.cells #[.int .i64 yk,.string yt,.int .i64 yd] 31)=w1 at HY hb hh ⊢;obtain ⟨y0,y1,y2,_⟩:=bx3 HY.o;obtain ⟨bt,ho⟩:∃ bt,bt=decide (yk=2∨yk=3∨yk=4):=⟨_,rfl⟩;have CT:=zW (M2 yk yt yd w1 bt ho);have hu:=zW ho;clear ho;cases bt with
     | false=>
       go_wp2_with (go_at_call 50;refine (CT.o).mono ?_;rintro e w2 ⟨rfl,ha⟩;obtain ⟨v0,v1,v2,_⟩:=bx3 ((ha.block q hh).trans HY.o);obtain ⟨x0,x1,x2,_⟩:=bx3 ((ha.block p (Nat.lt_of_lt_of_le he hb.o.size)).trans ((hb.o.block p he).trans hf.o));have hj:=zW (hb.o.trans (ha.mono hb.o.size));clear ha)
       go_roundg (f.length - (i+1))
       case measure=>omega
       case rel=>exact ⟨i+1,rfl,hlt,hj.o,yQ⟩
     | true=>
       have ht:yk=2∨yk=3∨yk=4:=of_decide_eq_true hu.o.symm;clear hu;have hr:yd≠xd:=fun e=>by have h3:(2:Int)=3:=(hg ht (.inl rfl) e).1;omega
       have t1:(yd != xd)=true:=(by simpa using hr);clear ht hg hr;go_wp2_with (go_at_call 50;refine (CT.o).mono ?_;rintro e w2 ⟨rfl,ha⟩;obtain ⟨v0,v1,v2,_⟩:=bx3 ((ha.block q hh).trans HY.o);obtain ⟨x0,x1,x2,_⟩:=bx3 ((ha.block p (Nat.lt_of_lt_of_le he hb.o.size)).trans ((hb.o.block p he).trans hf.o));have hj:=zW (hb.o.trans (ha.mono hb.o.size));clear ha)
       go_roundg (f.length - (i+1))
       case measure=>omega
       case rel=>exact ⟨i+1,rfl,hlt,hj.o,yQ⟩
    ·obtain rfl:i=f.length:=yY;go_wp2_with fail
     first | go_ret | skip
     rw [hx.o];exact ⟨rfl,hm.o.trans (HB.o.mono hm.o.size)⟩
  ·have hk':xk=4:=hk;subst hk';go_enter Tryz.func92,Tryz.ntmps92
   go_upto_region 1 with fail
   rw [←hp.o] at hf he ⊢;generalize w.alloc (.cells #[.int .i64 4,.string xt,.int .i64 xd] 31)=w0 at hf hm H1 he ⊢;obtain ⟨x0,x1,x2,_⟩:=bx3 hf.o;go_wp2_with (go_at_call 140;refine (CC.o _).mono ?_;rintro e w' ⟨rfl,rfl⟩)
   go_loopg [80] f.length (fun gk iv wr=>∃ i:Nat,iv=.int .i64 i∧i≤f.length∧yK (Below w0.heap.size w0 wr)∧f.length - i≤gk)
   case atStart=>exact ⟨0,rfl,Nat.zero_le _,Below.refl _ _,yQ⟩
   case round=>
    obtain ⟨i,rfl,hi,HB,hgk⟩:=hrel;by_cases hlt:i < f.length
    ·have hF:(i:Int) < (f.length:Int):=yY;have hE:(0:Int)≤(i:Int):=yY;obtain ⟨b,o,hA,hn,p0,p1,p2⟩:=RdT.at_ H1.o i hlt;subst hA;have hc:=List.getElem_mem hlt;have hv:=hC.o _ hc;have hg:=HF.o _ hc;clear hc;generalize f[i]=y at p0 p1 p2 hv hg;obtain ⟨yk,yt,yd⟩:=y;simp only at p0 p1 p2 hv;have q0:=(HB.o.cell (p:=⟨b,o+i * 3,none⟩) hn).trans p0;have q1:=(HB.o.cell (p:=⟨b,o+i * 3+1,none⟩) hn).trans p1;have q2:=(HB.o.cell (p:=⟨b,o+i * 3+2,none⟩) hn).trans p2;clear p0 p1 p2;have hB:=HB.o.size;have HY:yK ((wr.alloc (.cells #[.int .i64 yk,.string yt,.int .i64 yd] 31)).heap[wr.heap.size]? =some (.cells #[.int .i64 yk,.string yt,.int .i64 yd] 31)):=Array.getElem?_push_size;have hb:=zW (HB.o.alloc hB (.cells #[.int .i64 yk,.string yt,.int .i64 yd] 31));have hh:wr.heap.size < (wr.alloc (.cells #[.int .i64 yk,.string yt,.int .i64 yd] 31)).heap.size:=yW;obtain ⟨q,hq⟩:∃ q,yK (q=wr.heap.size):=⟨_,rfl⟩;go_upto_region 22 with fail
     rw [←hq.o] at HY hh ⊢;generalize wr.alloc (.cells #[.int .i64 yk,.string yt,.int .i64 yd] 31)=w1 at HY hb hh ⊢;obtain ⟨y0,y1,y2,_⟩:=bx3 HY.o;obtain ⟨bt,ho⟩:∃ bt,bt=decide (yk=2∨yk=3∨yk=4):=⟨_,rfl⟩;have CT:=zW (M2 yk yt yd w1 bt ho);have hu:=zW ho;clear ho;cases bt with
     | false=>
       go_wp2_with (go_at_call 50;refine (CT.o).mono ?_;rintro e w2 ⟨rfl,ha⟩;obtain ⟨v0,v1,v2,_⟩:=bx3 ((ha.block q hh).trans HY.o);obtain ⟨x0,x1,x2,_⟩:=bx3 ((ha.block p (Nat.lt_of_lt_of_le he hb.o.size)).trans ((hb.o.block p he).trans hf.o));have hj:=zW (hb.o.trans (ha.mono hb.o.size));clear ha)
       go_roundg (f.length - (i+1))
       case measure=>omega
       case rel=>exact ⟨i+1,rfl,hlt,hj.o,yQ⟩
     | true=>
       have ht:yk=2∨yk=3∨yk=4:=of_decide_eq_true hu.o.symm;clear hu;have hr:yd≠xd:=fun e=>by have h3:(4:Int)=3:=(hg ht (.inr (.inr rfl)) e).1;omega
       have t1:(yd != xd)=true:=(by simpa using hr);clear ht hg hr;go_wp2_with (go_at_call 50;refine (CT.o).mono ?_;rintro e w2 ⟨rfl,ha⟩;obtain ⟨v0,v1,v2,_⟩:=bx3 ((ha.block q hh).trans HY.o);obtain ⟨x0,x1,x2,_⟩:=bx3 ((ha.block p (Nat.lt_of_lt_of_le he hb.o.size)).trans ((hb.o.block p he).trans hf.o));have hj:=zW (hb.o.trans (ha.mono hb.o.size));clear ha)
       go_roundg (f.length - (i+1))
       case measure=>omega
       case rel=>exact ⟨i+1,rfl,hlt,hj.o,yQ⟩
    ·obtain rfl:i=f.length:=yY;go_wp2_with fail
     first | go_ret | skip
     rw [hx.o];exact ⟨rfl,hm.o.trans (HB.o.mono hm.o.size)⟩
 ·have hk':xk=3:=hk;subst hk';have hd1':(1:Int)≤xd:=hd1;have hd2':xd≤999:=hd2;rw [show V8 xt.data.toList=true from hnm] at CN;clear htx hnm hd1 hd2 hk;have u1:¬ xd < 1:=yY;have u2:¬ (999:Int) < xd:=yY;go_enter Tryz.func92,Tryz.ntmps92
  go_upto_region 1 with fail
  rw [←hp.o] at hf he ⊢;generalize w.alloc (.cells #[.int .i64 3,.string xt,.int .i64 xd] 31)=w0 at hf hm H1 he ⊢;obtain ⟨x0,x1,x2,_⟩:=bx3 hf.o;go_wp2_with (go_at_call 139;refine (CN.o _).mono ?_;rintro e w' ⟨rfl,rfl⟩)
  go_loopg [80] f.length (fun gk iv wr=>∃ i:Nat,iv=.int .i64 i∧i≤f.length∧yK (Below w0.heap.size w0 wr)∧f.length - i≤gk)
  case atStart=>exact ⟨0,rfl,Nat.zero_le _,Below.refl _ _,yQ⟩
  case round=>
   obtain ⟨i,rfl,hi,HB,hgk⟩:=hrel;by_cases hlt:i < f.length
   ·have hF:(i:Int) < (f.length:Int):=yY;have hE:(0:Int)≤(i:Int):=yY;obtain ⟨b,o,hA,hn,p0,p1,p2⟩:=RdT.at_ H1.o i hlt;subst hA;have hc:=List.getElem_mem hlt;have hv:=hC.o _ hc;have hg:=HF.o _ hc;clear hc;generalize f[i]=y at p0 p1 p2 hv hg;obtain ⟨yk,yt,yd⟩:=y;simp only at p0 p1 p2 hv;have q0:=(HB.o.cell (p:=⟨b,o+i * 3,none⟩) hn).trans p0;have q1:=(HB.o.cell (p:=⟨b,o+i * 3+1,none⟩) hn).trans p1;have q2:=(HB.o.cell (p:=⟨b,o+i * 3+2,none⟩) hn).trans p2;clear p0 p1 p2;have hB:=HB.o.size;have HY:yK ((wr.alloc (.cells #[.int .i64 yk,.string yt,.int .i64 yd] 31)).heap[wr.heap.size]? =some (.cells #[.int .i64 yk,.string yt,.int .i64 yd] 31)):=Array.getElem?_push_size;have hb:=zW (HB.o.alloc hB (.cells #[.int .i64 yk,.string yt,.int .i64 yd] 31));have hh:wr.heap.size < (wr.alloc (.cells #[.int .i64 yk,.string yt,.int .i64 yd] 31)).heap.size:=yW;obtain ⟨q,hq⟩:∃ q,yK (q=wr.heap.size):=⟨_,rfl⟩;go_upto_region 22 with fail
    rw [←hq.o] at HY hh ⊢;generalize wr.alloc (.cells #[.int .i64 yk,.string yt,.int .i64 yd] 31)=w1 at HY hb hh ⊢;obtain ⟨y0,y1,y2,_⟩:=bx3 HY.o;obtain ⟨bt,ho⟩:∃ bt,bt=decide (yk=2∨yk=3∨yk=4):=⟨_,rfl⟩;have CT:=zW (M2 yk yt yd w1 bt ho);have hu:=zW ho;clear ho;cases bt with
    | false=>
      go_wp2_with (go_at_call 50;refine (CT.o).mono ?_;rintro e w2 ⟨rfl,ha⟩;obtain ⟨v0,v1,v2,_⟩:=bx3 ((ha.block q hh).trans HY.o);obtain ⟨x0,x1,x2,_⟩:=bx3 ((ha.block p (Nat.lt_of_lt_of_le he hb.o.size)).trans ((hb.o.block p he).trans hf.o));have hj:=zW (hb.o.trans (ha.mono hb.o.size));clear ha)
      go_roundg (f.length - (i+1))
      case measure=>omega
      case rel=>exact ⟨i+1,rfl,hlt,hj.o,yQ⟩
    | true=>
      have ht:yk=2∨yk=3∨yk=4:=of_decide_eq_true hu.o.symm;clear hu;by_cases hr:yd=xd
      ·have hg:=hg ht (.inr (.inl rfl)) hr;have h2:yk=2:=hg.2.1;have hD:yK (J8 yt=xt):=hg.2.2;subst h2 hr;have t1:(yd != yd)=false:=yW;have CNY:=zW (fun w=>B5 yt w yY);change yK (∀ w,Calls Tryz.prog 36 #[.string yt] w fun e w'=>e=.returned (.string (J8 yt))∧w=w') at CNY
       rw [hD.o] at CNY;have t2:(xt.toList != xt.toList)=false:=yW;clear ht hg hD;go_upto_region 23 with (go_at_call 50;refine (CT.o).mono ?_;rintro e w2 ⟨rfl,ha⟩;obtain ⟨v0,v1,v2,_⟩:=bx3 ((ha.block q hh).trans HY.o);obtain ⟨x0,x1,x2,_⟩:=bx3 ((ha.block p (Nat.lt_of_lt_of_le he hb.o.size)).trans ((hb.o.block p he).trans hf.o));have hj:=zW (hb.o.trans (ha.mono hb.o.size));clear ha)
       go_quiet ((go_at_call 36;exact X7b (CNY.o _)))
       go_wp2_with fail
       go_roundg (f.length - (i+1))
       case measure=>omega
       case rel=>exact ⟨i+1,rfl,hlt,Q1 hj.o _,yQ⟩
      ·have t1:(yd != xd)=true:=(by simpa using hr);clear ht hg hr;go_wp2_with (go_at_call 50;refine (CT.o).mono ?_;rintro e w2 ⟨rfl,ha⟩;obtain ⟨v0,v1,v2,_⟩:=bx3 ((ha.block q hh).trans HY.o);obtain ⟨x0,x1,x2,_⟩:=bx3 ((ha.block p (Nat.lt_of_lt_of_le he hb.o.size)).trans ((hb.o.block p he).trans hf.o));have hj:=zW (hb.o.trans (ha.mono hb.o.size));clear ha)
       go_roundg (f.length - (i+1))
       case measure=>omega
       case rel=>exact ⟨i+1,rfl,hlt,hj.o,yQ⟩
   ·obtain rfl:i=f.length:=yY;go_wp2_with fail
    first | go_ret | skip
    rw [hx.o];exact ⟨rfl,hm.o.trans (HB.o.mono hm.o.size)⟩
theorem Z8y (f:List Tk) (hf:f.Pairwise Y0w) (i:Nat) (h:i < f.length):∀ y∈f.take i,Y0w y f[i]:=by
 intro y hy;obtain ⟨j,hj,rfl⟩:=List.mem_iff_getElem.1 hy;rw [List.length_take] at hj;rw [List.getElem_take];exact (List.pairwise_iff_getElem.1 hf) j i yY h yY
theorem Z5e (f:List Tk) (hn:Normal f) (i:Nat) (h:i < f.length) (hk:f[i].k=1):∀ y,(f.take i).getLast? =some y→y.k≠1:=by
 intro y hy;cases i with
 | zero=>simp at hy
 | succ j=>
   rw [List.take_succ_eq_append_getElem yY,List.getLast?_append] at hy;simp at hy;rw [←hy];exact Q6c f j f[j+1] f[j] hn (List.getElem?_eq_getElem yY) (List.getElem?_eq_getElem h) hk
theorem Y7b (f:List Tk) (v:Value) (w:World) (h1:RdT w v f) (hv:ValF f) (hs:∀ y∈f,y.t.size≤1000000):
 Calls Tryz.prog 49 #[v] w fun e w'=>e=.returned (.int .i64 0)∧Below w.heap.size w w':=by
 obtain ⟨R,he⟩:∃ R:Ending→World→Prop,yK (R=fun e w'=>e=.returned (.int .i64 0)∧Below w.heap.size w w'):=⟨_,rfl⟩;rw [←he.o];obtain ⟨A,c,rfl,hj,_⟩:=h1.shape;have hq:=hv.len;have hl:=hv.pos;have CL:=zW (Q6q f _ w h1 yY yY);generalize X2 f=ln at hl CL;have H1:=zW h1;have HV:=zW hv;have hf:=zW hs;have t1:¬ (512:Int) < (f.length:Int):=yY;have t2:¬ (1024:Int) < (ln:Int):=yY;clear h1 hv hs;go_enter Tryz.func49,Tryz.ntmps49
 go_wp2_with (go_at_call 91;refine (CL.o).mono ?_;rintro e w0 ⟨rfl,rfl⟩)
 obtain ⟨wo,hc⟩:∃ wo,yK (wo=w):=⟨w,rfl⟩;go_loopg [15] f.length (fun gk iv wr=>∃ i:Nat,iv=.int .i64 i∧i≤f.length∧yK (Below wo.heap.size wo wr)∧f.length - i≤gk)
 case atStart=>exact ⟨0,rfl,Nat.zero_le _,by rw [hc.o];exact Below.refl _ _,yQ⟩
 case round=>
  obtain ⟨i,rfl,hi,HB,hgk⟩:=hrel;rw [←hc.o] at H1;by_cases hlt:i < f.length
  ·have hp:(i:Int) < (f.length:Int):=yY;have ho:(0:Int)≤(i:Int):=yY;have hn:(i:Int)≤(c:Int):=yY;obtain ⟨b,o,hA,hd,p0,p1,p2⟩:=RdT.at_ H1.o i hlt;subst hA;have q0:=(HB.o.cell (p:=⟨b,o+i * 3,none⟩) hd).trans p0;have q1:=(HB.o.cell (p:=⟨b,o+i * 3+1,none⟩) hd).trans p1;have q2:=(HB.o.cell (p:=⟨b,o+i * 3+2,none⟩) hd).trans p2;have ha:=List.getElem_mem hlt;have hb:(f.take i).length=i:=(by rw [List.length_take];omega);have CK:=zW (fun (W:World) (hW:Below wo.heap.size wo W)=>by
    have hr:=RdE.take (RdE.below H1.o hW yQ) i (Nat.le_of_lt hlt);have:=Y9z (f.take i) (some ⟨b,o,none⟩) c f[i].k f[i].t f[i].d W (by rw [hb];exact hr) (by rw [hb];omega) (HV.o.wf _ ha) (fun hk=>⟨(Q7n f i f[i] HV.o.nrm (List.getElem?_eq_getElem hlt) hk).1,(Q7n f i f[i] HV.o.nrm (List.getElem?_eq_getElem hlt) hk).2,Z5e f HV.o.nrm i hlt hk⟩) (hf.o _ ha) (fun y hy=>hf.o y (List.mem_of_mem_take hy)) (Z8y f HV.o.fit i hlt);rw [hb] at this;exact this)
   clear p0 p1 p2 ha hb;generalize f[i]=x at q0 q1 q2 CK;obtain ⟨xk,xt,xd⟩:=x;simp only at q0 q1 q2 CK;have hm:=HB.o.size;go_upto_region 6 with fail
   go_region_with (go_at_call 92;refine (CK.o _ (by exact Q1 HB.o 1)).mono ?_;rintro e w2 ⟨rfl,hg⟩;have hh:=zW ((Q1 HB.o 1).trans (hg.mono hm));clear hg)
   all_goals (
    go_wp2_with fail
    go_roundg (f.length - (i+1))
    case measure=>omega
    case rel=>exact ⟨i+1,rfl,hlt,hh.o,yQ⟩)
  ·obtain rfl:i=f.length:=yY;go_wp2_with fail
   first | go_ret | skip
   rw [he.o];rw [hc.o] at HB;exact ⟨rfl,HB.o⟩
theorem B6 (a b:List UInt8):ofL (a++b)=ofL a++ofL b:=by
 apply ByteArray.ext;apply Array.toList_inj.1;simp [ofL]
theorem V8a (c:UInt8) (w:World):Calls Tryz.prog 52 #[.int .i64 1,.int .u8 (c.toNat:Int)] w fun e w'=>e=.returned (.string (ofL (F5 1 c)))∧Below w.heap.size w w':=by
 have HB:=zW ((Below.refl w.heap.size w).alloc yQ (.cells #[.int .u8 (c.toNat:Int)] 5));have ha:=O2 w c;by_cases e60:c=60
 ·have HE:yK (F5 1 c=[38,108,116,59]):=(by show _=_;rw [e60];decide);have n60:((c.toNat:Int)==60)=true:=(by rw [e60];rfl);clear e60;go_enter Tryz.func52,Tryz.ntmps52
  go_wp2_with fail
  first | go_ret | skip
  refine ⟨?_,HB.o⟩;rw [HE.o];rfl
 ·skip
  by_cases e38:c=38
  ·have HE:yK (F5 1 c=[38,97,109,112,59]):=(by show _=_;rw [e38];decide);have n60:((c.toNat:Int)==60)=false:=X8 c 60 e60;have n38:((c.toNat:Int)==38)=true:=(by rw [e38];rfl);clear e60 e38;go_enter Tryz.func52,Tryz.ntmps52
   go_wp2_with fail
   first | go_ret | skip
   refine ⟨?_,HB.o⟩;rw [HE.o];rfl
  ·skip
   by_cases e123:c=123
   ·have HE:yK (F5 1 c=[38,108,98,59]):=(by show _=_;rw [e123];decide);have n60:((c.toNat:Int)==60)=false:=X8 c 60 e60;have n38:((c.toNat:Int)==38)=false:=X8 c 38 e38;have n123:((c.toNat:Int)==123)=true:=(by rw [e123];rfl);clear e60 e38 e123;go_enter Tryz.func52,Tryz.ntmps52
    go_wp2_with fail
    first | go_ret | skip
    refine ⟨?_,HB.o⟩;rw [HE.o];rfl
   ·skip
    have HE:yK (F5 1 c=[c]):=by
     show _=_;unfold F5;rw [if_pos rfl,if_neg e60,if_neg e38,if_neg e123]
    have n60:((c.toNat:Int)==60)=false:=X8 c 60 e60;have n38:((c.toNat:Int)==38)=false:=X8 c 38 e38;have n123:((c.toNat:Int)==123)=false:=X8 c 123 e123;clear e60 e38 e123;go_enter Tryz.func52,Tryz.ntmps52
    go_wp2_with fail
    first | go_ret | skip
    refine ⟨?_,HB.o⟩;rw [HE.o];rfl
theorem V8b (c:UInt8) (w:World):Calls Tryz.prog 52 #[.int .i64 2,.int .u8 (c.toNat:Int)] w fun e w'=>e=.returned (.string (ofL (F5 2 c)))∧Below w.heap.size w w':=by
 have HB:=zW ((Below.refl w.heap.size w).alloc yQ (.cells #[.int .u8 (c.toNat:Int)] 5));have ha:=O2 w c;by_cases e10:c=10
 ·have HE:yK (F5 2 c=[92,110]):=(by show _=_;rw [e10];decide);have n10:((c.toNat:Int)==10)=true:=(by rw [e10];rfl);clear e10;go_enter Tryz.func52,Tryz.ntmps52
  go_wp2_with fail
  first | go_ret | skip
  refine ⟨?_,HB.o⟩;rw [HE.o];rfl
 ·skip
  by_cases e9:c=9
  ·have HE:yK (F5 2 c=[92,116]):=(by show _=_;rw [e9];decide);have n10:((c.toNat:Int)==10)=false:=X8 c 10 e10;have n9:((c.toNat:Int)==9)=true:=(by rw [e9];rfl);clear e10 e9;go_enter Tryz.func52,Tryz.ntmps52
   go_wp2_with fail
   first | go_ret | skip
   refine ⟨?_,HB.o⟩;rw [HE.o];rfl
  ·skip
   by_cases e13:c=13
   ·have HE:yK (F5 2 c=[92,114]):=(by show _=_;rw [e13];decide);have n10:((c.toNat:Int)==10)=false:=X8 c 10 e10;have n9:((c.toNat:Int)==9)=false:=X8 c 9 e9;have n13:((c.toNat:Int)==13)=true:=(by rw [e13];rfl);clear e10 e9 e13;go_enter Tryz.func52,Tryz.ntmps52
    go_wp2_with fail
    first | go_ret | skip
    refine ⟨?_,HB.o⟩;rw [HE.o];rfl
   ·skip
    by_cases e92:c=92
    ·have HE:yK (F5 2 c=[92,92]):=(by show _=_;rw [e92];decide);have n10:((c.toNat:Int)==10)=false:=X8 c 10 e10;have n9:((c.toNat:Int)==9)=false:=X8 c 9 e9;have n13:((c.toNat:Int)==13)=false:=X8 c 13 e13;have n92:((c.toNat:Int)==92)=true:=(by rw [e92];rfl);have HC:=zW e92;clear e10 e9 e13 e92;go_enter Tryz.func52,Tryz.ntmps52
     go_wp2_with fail
     first | go_ret | skip
     refine ⟨?_,HB.o⟩;rw [HE.o];rw [HC.o];rfl
    ·skip
     by_cases e123:c=123
     ·have HE:yK (F5 2 c=[92,123]):=(by show _=_;rw [e123];decide);have n10:((c.toNat:Int)==10)=false:=X8 c 10 e10;have n9:((c.toNat:Int)==9)=false:=X8 c 9 e9;have n13:((c.toNat:Int)==13)=false:=X8 c 13 e13;have n92:((c.toNat:Int)==92)=false:=X8 c 92 e92;have n123:((c.toNat:Int)==123)=true:=(by rw [e123];rfl);have HC:=zW e123;clear e10 e9 e13 e92 e123;go_enter Tryz.func52,Tryz.ntmps52
      go_wp2_with fail
      first | go_ret | skip
      refine ⟨?_,HB.o⟩;rw [HE.o];rw [HC.o];rfl
     ·skip
      have HE:yK (F5 2 c=[c]):=by
       show _=_;unfold F5;rw [if_neg yX,if_pos rfl,if_neg e10,if_neg e9,if_neg e13,if_neg e92,if_neg e123]
      have n10:((c.toNat:Int)==10)=false:=X8 c 10 e10;have n9:((c.toNat:Int)==9)=false:=X8 c 9 e9;have n13:((c.toNat:Int)==13)=false:=X8 c 13 e13;have n92:((c.toNat:Int)==92)=false:=X8 c 92 e92;have n123:((c.toNat:Int)==123)=false:=X8 c 123 e123;clear e10 e9 e13 e92 e123;go_enter Tryz.func52,Tryz.ntmps52
      go_wp2_with fail
      first | go_ret | skip
      refine ⟨?_,HB.o⟩;rw [HE.o];rfl
theorem V8c (c:UInt8) (w:World):Calls Tryz.prog 52 #[.int .i64 3,.int .u8 (c.toNat:Int)] w fun e w'=>e=.returned (.string (ofL (F5 3 c)))∧Below w.heap.size w w':=by
 have HB:=zW ((Below.refl w.heap.size w).alloc yQ (.cells #[.int .u8 (c.toNat:Int)] 5));have ha:=O2 w c;by_cases e34:c=34
 ·have HE:yK (F5 3 c=[34,34]):=(by show _=_;rw [e34];decide);have n34:((c.toNat:Int)==34)=true:=(by rw [e34];rfl);have HC:=zW e34;clear e34;go_enter Tryz.func52,Tryz.ntmps52
  go_wp2_with fail
  first | go_ret | skip
  refine ⟨?_,HB.o⟩;rw [HE.o];rw [HC.o];rfl
 ·skip
  by_cases e123:c=123
  ·have HE:yK (F5 3 c=[123,123]):=(by show _=_;rw [e123];decide);have n34:((c.toNat:Int)==34)=false:=X8 c 34 e34;have n123:((c.toNat:Int)==123)=true:=(by rw [e123];rfl);have HC:=zW e123;clear e34 e123;go_enter Tryz.func52,Tryz.ntmps52
   go_wp2_with fail
   first | go_ret | skip
   refine ⟨?_,HB.o⟩;rw [HE.o];rw [HC.o];rfl
  ·skip
   have HE:yK (F5 3 c=[c]):=by
    show _=_;unfold F5;rw [if_neg yX,if_neg yX,if_neg e34,if_neg e123]
   have n34:((c.toNat:Int)==34)=false:=X8 c 34 e34;have n123:((c.toNat:Int)==123)=false:=X8 c 123 e123;clear e34 e123;go_enter Tryz.func52,Tryz.ntmps52
   go_wp2_with fail
   first | go_ret | skip
   refine ⟨?_,HB.o⟩;rw [HE.o];rfl
theorem Z6h (fmt:Int) (hf:E7 fmt) (c:UInt8) (w:World):Calls Tryz.prog 52 #[.int .i64 fmt,.int .u8 (c.toNat:Int)] w fun e w'=>e=.returned (.string (ofL (F5 fmt c)))∧Below w.heap.size w w':=by
 rcases hf with rfl | rfl | rfl
 ·exact V8a c w
 ·exact V8b c w
 ·exact V8c c w
theorem Z7m (s:ByteArray):s++(⟨#[]⟩:ByteArray)=s:=by
 apply ByteArray.ext;apply Array.toList_inj.1;simp
theorem X9m (fmt:Int):∀ (f:List Tk),(∀ x∈f,x.t.size≤1024)→(J5 fmt f).length≤5123 * f.length
 | [],_=>by simp [J5]
 | x::f,h=>by
   have h1:=Q1w fmt x;have h2:=X9m fmt f fun y hy=>h y (by simp [hy]);have h3:=h x yW;rw [show J5 fmt (x::f)=V3 fmt x++J5 fmt f from rfl,List.length_append,List.length_cons];omega
theorem V0x (fmt:Int) (hf:E7 fmt) (f:List Tk) (v:Value) (w:World) (h1:RdT w v f) (hv:ValF f) (hnb:fmt=1→Q6t f) (hpl:fmt≠1→∀ x∈f,V5 x):
 Calls Tryz.prog 22 #[.int .i64 fmt,v] w fun e w'=>e=.returned (.tuple #[.string (ofL (J5 fmt f)),.int .i64 0])∧Below w.heap.size w w':=by
 obtain ⟨R,hu⟩:∃ R:Ending→World→Prop,yK (R=fun e w'=>e=.returned (.tuple #[.string (ofL (J5 fmt f)),.int .i64 0])∧Below w.heap.size w w'):=⟨_,rfl⟩;rw [←hu.o];obtain ⟨A,c,rfl,_,_⟩:=h1.shape;have hs:=X1p f hv;have hw:=zW hs;have CV:=zW (Y7b f _ w h1 hv (fun y hy=>by have:=hs y hy;omega));have hX:=hv.len;have H1:=zW h1;have HV:=zW hv;have hL:=zW hf;have hN:=zW hnb;have hO:=zW hpl;clear h1 hv hs hf hnb hpl;go_enter Tryz.func22,Tryz.ntmps22
 go_wp2_with (go_at_call 49;refine (CV.o).mono ?_;rintro e w0 ⟨rfl,hz⟩;have hG:=zW hz;clear hz)
 go_loopg [7,18] f.length (fun gk sv iv wr=>∃ i:Nat,iv=.int .i64 i∧sv=.string (ofL (J5 fmt (f.take i)))∧i≤f.length∧yK (Below w.heap.size w wr)∧f.length - i≤gk)
 case atStart=>exact ⟨0,rfl,rfl,Nat.zero_le _,hG.o,yQ⟩
 case round=>
  obtain ⟨i,rfl,rfl,hi,HB,hgk⟩:=hrel;by_cases hlt:i < f.length
  ·have hV:(i:Int) < (f.length:Int):=yY;have hU:(0:Int)≤(i:Int):=yY;obtain ⟨b,o,hA,hb,p0,p1,p2⟩:=RdT.at_ H1.o i hlt;subst hA;have q0:=(HB.o.cell (p:=⟨b,o+i * 3,none⟩) hb).trans p0;have q1:=(HB.o.cell (p:=⟨b,o+i * 3+1,none⟩) hb).trans p1;have q2:=(HB.o.cell (p:=⟨b,o+i * 3+2,none⟩) hb).trans p2;have he:=List.getElem_mem hlt;have hn:=zW (Q7b fmt f i hlt);have hS:(ofL (J5 fmt (f.take i))).size≤2700000:=by
    rw [Q6];have h1:=X9m fmt (f.take i) (fun x hx=>hw.o x (List.mem_of_mem_take hx));have h2:=List.length_take_le i f;omega
   have hD:=hw.o _ he;have hC:=HV.o.wf _ he;have hj:yK (N1 f[i]→fmt=1∧J4 (Z1 f[i].t.data.toList)=false):=fun ht=>by
    by_cases h1:fmt=1
    ·exact ⟨h1,hN.o h1 _ he ht⟩
    ·have:=hO.o h1 _ he;unfold N1 at ht;rcases this with h | ⟨h,_⟩<;>omega
   clear p0 p1 p2 he;generalize f[i]=x at q0 q1 q2 hn hD hC hj;obtain ⟨xk,xt,xd⟩:=x;simp only at q0 q1 q2 hD;have hF:=HB.o.size;have HX:yK ((wr.alloc (.cells #[.int .i64 xk,.string xt,.int .i64 xd] 31)).heap[wr.heap.size]? =some (.cells #[.int .i64 xk,.string xt,.int .i64 xd] 31)):=Array.getElem?_push_size;have hd:=zW (HB.o.alloc hF (.cells #[.int .i64 xk,.string xt,.int .i64 xd] 31));have hc:wr.heap.size < (wr.alloc (.cells #[.int .i64 xk,.string xt,.int .i64 xd] 31)).heap.size:=yW;obtain ⟨q,hq⟩:∃ q,yK (q=wr.heap.size):=⟨_,rfl⟩;obtain ⟨S,hm⟩:∃ S,yK (ofL (J5 fmt (f.take i))=S):=⟨_,rfl⟩;rw [hm.o] at hS ⊢;go_upto_region 9 with fail
   rw [←hq.o] at HX hc ⊢;generalize wr.alloc (.cells #[.int .i64 xk,.string xt,.int .i64 xd] 31)=w1 at HX hd hc ⊢;clear HB hF q0 q1 q2 hb;obtain ⟨x0,x1,x2,_⟩:=bx3 HX.o;rcases hC with hk | ⟨hk,_⟩ | ⟨hk,_⟩ | ⟨hk,_⟩
   ·have hk':xk=1:=hk;subst hk';have CT:=zW (M2 1 xt xd w1 false yX);have HE:yK (V3 fmt ⟨1,xt,xd⟩=xt.data.toList.flatMap (F5 fmt)):=rfl;clear hk hj;go_wp2_with (go_at_call 50;refine (CT.o).mono ?_;rintro e w2 ⟨rfl,ha⟩;have hg:=zW (hd.o.trans (ha.mono hd.o.size));have hh:=zW ((ha.block q hc).trans HX.o);have hp:q < w2.heap.size:=Nat.lt_of_lt_of_le hc ha.size;clear ha;obtain ⟨y0,y1,y2,_⟩:=bx3 hh.o)
    have CBY:=zW (fun (c:UInt8) (W:World)=>Z6h fmt hL.o c W);have hK:yK (∀ k,(h:k < xt.size)→(xt.data.toList.take (k+1)).flatMap (F5 fmt)=(xt.data.toList.take k).flatMap (F5 fmt)++F5 fmt xt[k]):=fun k h=>by
     have hl:k < xt.data.toList.length:=(by rw [←Lib.size_eq];exact h);rw [List.take_succ_eq_append_getElem hl,List.flatMap_append];congr 1;simp;rfl
    have hM:yK (∀ k,((xt.data.toList.take k).flatMap (F5 fmt)).length≤5 * k):=fun k=>by
     have h:∀ l:List UInt8,(l.flatMap (F5 fmt)).length≤5 * l.length:=by
      intro l;induction l with
      | nil=>simp
      | cons c l ih=>rw [List.flatMap_cons,List.length_append,List.length_cons];have:=Q9x fmt c;omega
     have:=h (xt.data.toList.take k);have h2:=List.length_take_le k xt.data.toList;omega
    go_loopg [7,10] xt.size (fun gk sv kv wz=>∃ (k:Nat) (U:ByteArray),kv=.int .i64 k∧sv=.string (S++U)∧yK (U=ofL ((xt.data.toList.take k).flatMap (F5 fmt)))∧k≤xt.size∧yK (Below w2.heap.size w2 wz)∧xt.size - k≤gk)
    case atStart=>exact ⟨0,⟨#[]⟩,rfl,congrArg Value.string (Z7m S).symm,rfl,Nat.zero_le _,Below.refl _ _,yQ⟩
    case round=>
     obtain ⟨k,U,rfl,rfl,HU,hk,hr,hT⟩:=hrel;obtain ⟨y0,y1,y2,_⟩:=bx3 ((hr.o.block q hp).trans hh.o);by_cases hlk:k < xt.size
     ·have hW:(k:Int) < (xt.size:Int):=yY;have hZ:U.size≤5200:=(by rw [HU.o,Q6];have:=hM.o k;omega);have hR:(ofL (F5 fmt xt[k])).size≤5:=(by rw [Q6];exact Q9x _ _);have hJ:=zW (hK.o k hlk);have CBk:=zW (CBY.o xt[k]);generalize hE:ofL (F5 fmt xt[k])=E at *;have hY:(S++U).size≤3000000:=(by rw [ByteArray.size_append];omega);have hQ:=hr.o.size;go_wp2_with (go_at_call 52;refine (CBk.o _).mono ?_;rintro e w5 ⟨rfl,hB⟩;have hH:=zW (hr.o.trans (hB.mono hQ));clear hB)
      go_roundg (xt.size - (k+1))
      case measure=>omega
      case rel=>exact ⟨k+1,U++E,rfl,by rw [ByteArray.append_assoc],by (show _=_;rw [hJ.o,B6,←HU.o,hE]),hlk,hH.o,yQ⟩
     ·obtain rfl:k=xt.size:=yY;have hP:yK (U=ofL (V3 fmt ⟨1,xt,xd⟩)):=(by show _=_;rw [HU.o,HE.o,List.take_of_length_le (by rw [←Lib.size_eq];exact yQ)]);have hI:=zW (hg.o.trans (hr.o.mono hg.o.size));go_wp2_with fail
      go_roundg (f.length - (i+1))
      case measure=>omega
      case rel=>exact ⟨i+1,rfl,by rw [hn.o,B6,hP.o,hm.o],hlt,hI.o,yQ⟩
   ·have hk':xk=5:=hk;subst hk';have CT:=zW (M2 5 xt xd w1 false yX);have HE:yK (ofL (V3 fmt ⟨5,xt,xd⟩)=⟨#[123]⟩++xt++⟨#[125]⟩):=by
     show _=_;apply ByteArray.ext;apply Array.toList_inj.1;simp [ofL,V3]
    clear hk;clear hj;go_wp2_with (go_at_call 50;refine (CT.o).mono ?_;rintro e w2 ⟨rfl,ha⟩;have hg:=zW (hd.o.trans (ha.mono hd.o.size));have hh:=zW ((ha.block q hc).trans HX.o);have hp:q < w2.heap.size:=Nat.lt_of_lt_of_le hc ha.size;clear ha;obtain ⟨y0,y1,y2,_⟩:=bx3 hh.o)
    go_roundg (f.length - (i+1))
    case measure=>omega
    case rel=>exact ⟨i+1,rfl,by rw [hn.o,B6,HE.o,hm.o],hlt,hg.o,yQ⟩
   ·rcases hk with hk | hk
    ·have hk':xk=2:=hk;subst hk';have CT:=zW (M2 2 xt xd w1 true yX);have HE:yK (ofL (V3 fmt ⟨2,xt,xd⟩)=⟨#[60]⟩++xt++⟨#[62]⟩):=by
      show _=_;apply ByteArray.ext;apply Array.toList_inj.1;simp [ofL,V3]
     clear hk;obtain ⟨ho,hb⟩:=hj.o (by unfold N1;simp);subst ho;have CN:=zW (fun W=>B5 xt W yY);rw [show (⟨(M9 xt.data.toList).toArray⟩:ByteArray)=ofL (Z1 xt.data.toList) from rfl] at CN;have CB:=zW (fun W=>Q3w (ofL (Z1 xt.data.toList)) W (by simpa [ofL] using hb));clear hb hj;go_wp2_with (first
      | (go_at_call 50;refine (CT.o).mono ?_;rintro e w2 ⟨rfl,ha⟩;have hg:=zW (hd.o.trans (ha.mono hd.o.size));have hh:=zW ((ha.block q hc).trans HX.o);have hp:q < w2.heap.size:=Nat.lt_of_lt_of_le hc ha.size;clear ha;obtain ⟨y0,y1,y2,_⟩:=bx3 hh.o)
      | (go_at_call 36;refine (CN.o _).mono ?_;rintro e w' ⟨rfl,rfl⟩)
      | (go_at_call 51;refine (CB.o _).mono ?_;rintro e w' ⟨rfl,rfl⟩))
     go_roundg (f.length - (i+1))
     case measure=>omega
     case rel=>exact ⟨i+1,rfl,by rw [hn.o,B6,HE.o,hm.o],hlt,hg.o,yQ⟩
    ·have hk':xk=4:=hk;subst hk';have CT:=zW (M2 4 xt xd w1 true yX);have HE:yK (ofL (V3 fmt ⟨4,xt,xd⟩)=⟨#[60]⟩++xt++⟨#[47,62]⟩):=by
      show _=_;apply ByteArray.ext;apply Array.toList_inj.1;simp [ofL,V3]
     clear hk;obtain ⟨ho,hb⟩:=hj.o (by unfold N1;simp);subst ho;have CN:=zW (fun W=>B5 xt W yY);rw [show (⟨(M9 xt.data.toList).toArray⟩:ByteArray)=ofL (Z1 xt.data.toList) from rfl] at CN;have CB:=zW (fun W=>Q3w (ofL (Z1 xt.data.toList)) W (by simpa [ofL] using hb));clear hb hj;go_wp2_with (first
      | (go_at_call 50;refine (CT.o).mono ?_;rintro e w2 ⟨rfl,ha⟩;have hg:=zW (hd.o.trans (ha.mono hd.o.size));have hh:=zW ((ha.block q hc).trans HX.o);have hp:q < w2.heap.size:=Nat.lt_of_lt_of_le hc ha.size;clear ha;obtain ⟨y0,y1,y2,_⟩:=bx3 hh.o)
      | (go_at_call 36;refine (CN.o _).mono ?_;rintro e w' ⟨rfl,rfl⟩)
      | (go_at_call 51;refine (CB.o _).mono ?_;rintro e w' ⟨rfl,rfl⟩))
     go_roundg (f.length - (i+1))
     case measure=>omega
     case rel=>exact ⟨i+1,rfl,by rw [hn.o,B6,HE.o,hm.o],hlt,hg.o,yQ⟩
   ·have hk':xk=3:=hk;subst hk';have CT:=zW (M2 3 xt xd w1 true yX);have HE:yK (ofL (V3 fmt ⟨3,xt,xd⟩)=⟨#[60,47]⟩++xt++⟨#[62]⟩):=by
     show _=_;apply ByteArray.ext;apply Array.toList_inj.1;simp [ofL,V3]
    clear hk;obtain ⟨ho,hb⟩:=hj.o (by unfold N1;simp);subst ho;have CN:=zW (fun W=>B5 xt W yY);rw [show (⟨(M9 xt.data.toList).toArray⟩:ByteArray)=ofL (Z1 xt.data.toList) from rfl] at CN;have CB:=zW (fun W=>Q3w (ofL (Z1 xt.data.toList)) W (by simpa [ofL] using hb));clear hb hj;go_wp2_with (first
     | (go_at_call 50;refine (CT.o).mono ?_;rintro e w2 ⟨rfl,ha⟩;have hg:=zW (hd.o.trans (ha.mono hd.o.size));have hh:=zW ((ha.block q hc).trans HX.o);have hp:q < w2.heap.size:=Nat.lt_of_lt_of_le hc ha.size;clear ha;obtain ⟨y0,y1,y2,_⟩:=bx3 hh.o)
     | (go_at_call 36;refine (CN.o _).mono ?_;rintro e w' ⟨rfl,rfl⟩)
     | (go_at_call 51;refine (CB.o _).mono ?_;rintro e w' ⟨rfl,rfl⟩))
    go_roundg (f.length - (i+1))
    case measure=>omega
    case rel=>exact ⟨i+1,rfl,by rw [hn.o,B6,HE.o,hm.o],hlt,hg.o,yQ⟩
  ·obtain rfl:i=f.length:=yY;rw [List.take_length];go_wp2_with fail
   first | go_ret2 | skip
   rw [hu.o];exact ⟨rfl,HB.o⟩
theorem Z8s {o:Oper} {a:Act} {w:World} (x y z:Operand) (k:Int) (s:ByteArray) (d:Int) (ho:o.op=.build 31 #[(0,x),(1,y),(2,z)]) (hx:a.eval x=.int .i64 k) (hy:a.eval y=.string s) (hz:a.eval z=.int .i64 d):(execOp a.eval o).run Tryz.prog w=.ok (.value (.agg #[.int .i64 k,.string s,.int .i64 d])) w:=by
 generalize a.eval=ρ at hx hy hz ⊢;unfold execOp;simp only [ho];go_simp
theorem V3l {o:Oper} {a:Act} {w:World} (x:Operand) (k:Int) (s:ByteArray) (d:Int) (ho:o.op=.buildSlice 24 1 #[(0,x)]) (hx:a.eval x=.agg #[.int .i64 k,.string s,.int .i64 d]):(execOp a.eval o).run Tryz.prog w=.ok (.value (.slice (some ⟨w.heap.size,0,none⟩) 1 1)) (w.alloc (.cells #[.int .i64 k,.string s,.int .i64 d] 31)):=by
 generalize a.eval=ρ at hx ⊢;unfold execOp;simp only [ho];go_simp
theorem Y1x {w:World} {b o:Nat} {x:Int} (h:w.cell? ⟨b,o,none⟩=some (.int .i64 x)):(Instr.loadAt 3 (.pointer (some ⟨b,o,none⟩))).run Tryz.prog w=.ok (.int .i64 x) w:=by
 go_simp
theorem X2b {a:Act} {w:World} {o:Oper} (x:Operand) (ts:Array TypeId) (vx:Value) (ho:o.op=.call { callee:=.value (.func 36),args:=#[x],argTypes:=ts }) (hx:a.eval x=vx):(execOp a.eval o).run Tryz.prog w=.ok (.enter 36 #[vx]) w:=by
 have hf:a.eval (.func 36)=.func (.func 36) #[] #[]:=rfl;generalize a.eval=ρ at hx hf ⊢;unfold execOp;simp only [ho];go_simp
def Q3e (g:Nat) (L:List Int) (r:List Tk×Nat) (w:World) (e:Ending) (w':World):Prop:=∃ v,e=.returned v∧OwnT 31 w' w.heap.size v r.1∧But g w w'∧Nums w' g L r.2
theorem X8o (L:List Int) (g N:Nat) (n:Nat) (w:World) (h:Nums w g L N) (hn:n≤8) (hN:N≤1000000):
 Calls Tryz.prog 9 #[.pointer (some ⟨g,0,none⟩),.int .i64 n,.bool true,.bool true] w (Q3e g L (U3 true L N n) w):=by
 obtain ⟨R,hT⟩:∃ R,yK (R=Q3e g L (U3 true L N n) w):=⟨_,rfl⟩;rw [←hT.o];obtain ⟨tgt,HT⟩:∃ tgt,yK (G4 true L (X0 L N ((n:Int)+1)).toNat ⟨[],[],0,N+1⟩=tgt):=⟨_,rfl⟩;have HA:yK (U3 true L N n=(tgt.f++F9 tgt.op,tgt.N)):=by
  show _=_;rw [←HT.o];rfl
 rw [HA.o] at hT;have hb:=X7 L N ((n:Int)+1) yY;have Hz:=zW (Z3 L g N ((n:Int)+1) w h yY yY yY);have ip:=h.lt;generalize X0 L N ((n:Int)+1)=z at HT hb Hz;obtain ⟨m,rfl⟩:∃ m:Nat,z=(m:Int):=⟨z.toNat,yY⟩;rw [Int.toNat_natCast] at HT;have hm:m≤8:=yY;clear h HA;go_enter Tryz.func9,Tryz.ntmps9
 go_wp2_with fail
 refine (Hz.o).mono ?_;rintro e w1 ⟨rfl,hb1,hn1⟩;have Hr:=zW hb1;have Hy:=zW hn1;clear hb1 hn1;go_wp2_with fail
 obtain ⟨wo,He⟩:∃ wo,yK (wo=w1):=⟨w1,rfl⟩;go_loopg [9,10,11,12] m (fun gk fv ov dv iv wr=>∃ (s:FS) (i r:Nat),dv=.int .i64 s.id∧iv=.int .i64 i∧r+i=m∧s.N≤N+1+9 * r∧yK (FGK true s r)∧yK (OwnT 31 wr w.heap.size fv s.f)∧yK (OwnT 31 wr w.heap.size ov s.op)∧yK (Q2o fv ov)∧yK (But g w wr)∧yK (Nums wr g L s.N)∧yK (G4 true L i s=tgt)∧i≤gk)
 case atStart=>exact ⟨⟨[],[],0,N+1⟩,m,0,rfl,rfl,yY,(by show N+1≤N+1+9 * 0;omega),Q7f true (N+1),OwnE.nil,OwnE.nil,(fun k hk=>by cases hk),Hr.o,Hy.o,HT.o,yQ⟩
 case round=>
  clear He Hr Hy HT;obtain ⟨⟨f,op,id,N'⟩,i,r,rfl,rfl,iO,im,hj,HF,HO,hH,HB,HN,HG,hgk⟩:=hrel;simp only at im HF HN HO;obtain ⟨A1,d1,it⟩:=Q0 HF.o;subst it;obtain ⟨A2,d2,Hq⟩:=Q0 HO.o;subst Hq;have HP:=hj.o.oplen;have hE:=hj.o.len;have il:=hj.o.bytes;have HL:=hj.o.id;simp only at HP hE il HL;cases i with
  | zero=>
    have he:tgt=⟨f,op,id,N'⟩:=HG.o.symm;rw [he] at hT;clear HG he;have iC:f.length≤8∧op.length≤8:=⟨yY,yY⟩;have HK:(F9 op).length=op.length:=(by unfold F9;simp);have Ht:=zW HK;have hU:=zW hj.o.opsz;clear HK hj;go_wp2_with fail
    obtain ⟨wo,He⟩:∃ wo,yK (wo=wr):=⟨wr,rfl⟩;go_loopg [9,15] op.length (fun gk fv kv wr=>∃ (q:Nat) (lf:List Tk) (Af:Option Addr) (cf:Nat),fv=.slice Af lf.length cf∧kv=.int .i64 ((q:Int) - 1)∧q≤op.length∧yK (lf=f++(F9 op).take (op.length - q))∧lf.length≤16 - q∧yK (OwnT 31 wr w.heap.size (.slice Af lf.length cf) lf)∧yK (OwnT 31 wr w.heap.size (.slice A2 op.length d2) op)∧yK (Q2o (.slice Af lf.length cf) (.slice A2 op.length d2))∧yK (But g w wr)∧yK (Nums wr g L N')∧q≤gk)
    case atStart=>exact ⟨op.length,f,A1,d1,rfl,rfl,yQ,(by show _=_;rw [Nat.sub_self,List.take_zero,List.append_nil]),yY,HF.o,HO.o,hH.o,HB.o,HN.o,yQ⟩
    case round=>
     clear He HF HO hH HB HN;obtain ⟨q,lf,Af,cf,rfl,rfl,hq,Ha,ir,hJ,Hd,ho,hZ,Hc,iE⟩:=hrel;cases q with
     | zero=>
       have e:lf=f++F9 op:=by
        rw [Ha.o,List.take_of_length_le (by rw [Ht.o];omega)]
       go_wp2_with fail
       rw [hT.o];exact ⟨_,rfl,by (show OwnE _ _ _ _ _ _ (f++F9 op));rw [←e];exact hJ.o,hZ.o,Hc.o⟩
     | succ q=>
       rw [show ((q+1:Nat):Int) - 1=(q:Int) by omega];have iL:(0:Int)≤(q:Int):=yY;have HQ:q < op.length:=yY;have iN:(q:Int) < (op.length:Int):=yY;obtain ⟨b,o,Hh,iA,p1,p2,p3⟩:=RdT.at_ (OwnE.rd Q5 Hd.o) q HQ;have hM:yK ((F9 op).take (op.length - q)=(F9 op).take (op.length - (q+1))++[⟨3,J8 op[q].t,op[q].d⟩]):=by
        show _=_;rw [show op.length - q=op.length - (q+1)+1 by omega,List.take_succ_eq_append_getElem (by rw [Ht.o];omega)];congr 2;unfold F9;rw [List.getElem_map,List.getElem_reverse];congr 2
        ·congr 2;congr 1;omega
        ·congr 2;omega
       have hW:=hU.o op[q] (List.getElem_mem HQ);subst Hh;generalize op[q]=y at p2 p3 hM hW;obtain ⟨yk,yt,yd⟩:=y;simp only at p2 p3 hM hW;clear p1;have p1:=p2;have ht:yK (∀ w,Calls Tryz.prog 36 #[.string yt] w fun e w'=>e=.returned (.string (J8 yt))∧w=w'):=fun w=>B5 yt w yY;have ia:yK (lf++[⟨3,J8 yt,yd⟩]=f++(F9 op).take (op.length - q)):=by
        show _=_;rw [hM.o,Ha.o,List.append_assoc]
       generalize hnf:lf.length=nf at ir hJ ho ⊢;have hQ:=zW hnf;clear hnf hM Ha;go_upto_region 36 with fail
       refine zqR (l0:=bL 16 0) 16 kr ?_;show let oo:=_;let q0:=_;let a0:=_;wpAny Tryz.prog _ oo q0 _ _ a0 _
       intro oo q0 a0;have T:wpAny Tryz.prog .any oo q0 4 (bL 16 4095) ((((((((((((a0.put (some 125) (.slice Af nf cf)).put (some 126) (.slice (some ⟨b,o,none⟩) op.length d2)).put (some 127) (.int .i64 (q:Int))).put (some 128) (.pointer (some ⟨b,o+q * 3,none⟩))).put (some 129) (.pointer (some ⟨b,o+q * 3+1,none⟩))).put (some 130) (.string yt)).put (some 131) (.string (J8 yt))).put (some 132) (.slice (some ⟨b,o,none⟩) op.length d2)).put (some 133) (.int .i64 (q:Int))).put (some 134) (.pointer (some ⟨b,o+q * 3,none⟩))).put (some 135) (.pointer (some ⟨b,o+q * 3+2,none⟩))).put (some 136) (.int .i64 yd)) wr.drew:=by
        simp only [a0,Act.put,zZ,zY,zX];refine zzA 12 (.agg #[.int .i64 3,.string (J8 yt),.int .i64 yd]) (some 137) rfl (fun _=>Z8s (.const (.int .i64 3)) (.tmp 131) (.tmp 136) 3 (J8 yt) yd rfl rfl yZ yZ) ?_;simp only [Act.put,zZ,zY,zX];have hd:=zW (V4 hJ.o (Q1 (Below.refl wr.heap.size wr) 1) yQ);have hy:=zW (V4 Hd.o (Q1 (Below.refl wr.heap.size wr) 1) yQ);have hP:yK (Nums wr.drew g L N'):=zW (Hc.o.keepg fun _ _=>rfl);have hs:yK (But g w wr.drew):=zW (hZ.o.drewN 1);change yK (OwnE 31 tkC 3 wr.drew w.heap.size _ _) at hd hy
        clear p1 p2 p3 hJ Hd Hc hZ;generalize wr.drew=w3 at hd hy hP hs ⊢;have iw:=hs.o.size;have ij:=zW (V4 hd.o ((Below.refl w3.heap.size w3).alloc yQ (.cells (tkC ⟨3,J8 yt,yd⟩).toArray 31)) yQ);refine Q9k 13 (some 138) (.slice (some ⟨w3.heap.size,0,none⟩) 1 1) (w3.alloc (.cells (tkC ⟨3,J8 yt,yd⟩).toArray 31)) yZ rfl rfl yZ (V3l (.tmp 137) 3 (J8 yt) yd rfl yZ) ?_;simp only [Act.put,zZ,zY,zX];refine zqo 14 rfl ?_;refine Y3e rfl (.tmp 125) (.tmp 138) 24 31 rfl Tryz.underlying24 _ tkC 3 32 Z7 rfl yX Q5 K2 w.heap.size (.slice Af nf cf) lf rfl (by have h:=ij.o;simp only [hQ.o] at h;rw [hQ.o];exact h) (.slice (some ⟨w3.heap.size,0,none⟩) 1 1) [⟨3,J8 yt,yd⟩] rfl (Z6 tkC 3 Q5 w3 _ rfl ⟨3,J8 yt,yd⟩ 31) (by rw [hQ.o,List.length_singleton];omega) yX yV ?_;intro v9 w9 hc hbel9 hgr9 hat9;obtain ⟨A9,c9,HS⟩:=Q0 hc;have e9:(lf++[(⟨3,J8 yt,yd⟩:Tk)]).length=nf+1:=(by rw [List.length_append,hQ.o];rfl);rw [e9] at HS;subst HS;show wpAny _ _ _ _ _ _ (Act.put _ (some 139) (.slice A9 (nf+1) c9)) w9;refine zqG 15 9 (.slice A9 (nf+1) c9) rfl ?_;refine wpAny_done yZ ?_ _;simp only [q0,Act.put,zZ,zY,zX];have hV:=Below.heap_alloc w3 (.cells (tkC ⟨3,J8 yt,yd⟩).toArray 31);have ii:yK (OwnE 31 tkC 3 w9 w.heap.size (.slice A9 (nf+1) c9) (lf++[⟨3,J8 yt,yd⟩])):=hc;have hS:yK (OwnE 31 tkC 3 w9 w.heap.size (.slice (some ⟨b,o,none⟩) op.length d2) op):=zW (Q8 hy.o fun k hk=>by
         have h1:=(hy.o.lt k hk).2;exact (hgr9.block k yV (fun e=>ho.o k e.symm hk)).trans (hV k h1))
        have hX:yK (Q2o (.slice A9 (nf+1) c9) (.slice (some ⟨b,o,none⟩) op.length d2)):=fun k hk e=>by
         rcases hat9 with h | h
         ·rw [show (Value.slice A9 (nf+1) c9).ownBlock=(Value.slice Af nf cf).ownBlock from h] at hk;exact ho.o k hk e
         ·rw [show (Value.slice A9 (nf+1) c9).ownBlock=some _ from h] at hk;injection hk with hk;have h1:=(hy.o.lt k e).2;simp at hk;omega
        have hE:=fun k (hk:(Value.slice Af nf cf).ownBlock=some k)=>(hd.o.lt k hk).1;have hv:yK (But g w w9):=⟨hgr9.os.trans hs.o.os,hgr9.tape.trans hs.o.tape,hgr9.output.trans hs.o.output,Nat.le_trans iw (Nat.le_trans yW hgr9.size),fun k hk hn=>((hgr9.block k yV (fun e=>by have:=hE k e.symm;omega)).trans (hV k yY)).trans (hs.o.block k hk hn)⟩;have ib:yK (Nums w9 g L N'):=zW (hP.o.keepg fun k hk=>(hgr9.block k (by have:=hP.o.lt;simp;omega) (fun e=>by have:=hE k e.symm;omega)).trans (hV k (by have:=hP.o.lt;omega)));have E9:=zW e9;clear hc hbel9 hgr9 hat9 hV hE e9;go_wp2_with fail
        go_roundg q
        case measure=>omega
        case rel=>exact ⟨q,lf++[Tk.mk 3 (J8 yt) yd],A9,c9,by rw [E9.o],rfl,yY,ia.o,by rw [E9.o];omega,by (show OwnE _ _ _ _ _ _ _);rw [E9.o];exact ii.o,hS.o,by rw [E9.o];exact hX.o,hv.o,ib.o,yQ⟩
       simp only [a0,Act.put,zZ,zY,zX];refine zqM 0 125 (.slice Af nf cf) rfl ?_;refine zqM 1 126 (.slice (some ⟨b,o,none⟩) op.length d2) rfl ?_;refine zqM 2 127 (.int .i64 (q:Int)) rfl ?_;refine zqI 3 128 (.pointer (some ⟨b,o+q * 3,none⟩)) rfl rfl (.slice (some ⟨b,o,none⟩) op.length d2) (.int .i64 (q:Int)) ?_;refine zqF 4 129 (.pointer (some ⟨b,o+q * 3+1,none⟩)) rfl rfl (.pointer (some ⟨b,o+q * 3,none⟩)) ?_;refine zqM 7 132 (.slice (some ⟨b,o,none⟩) op.length d2) rfl ?_;refine zqM 8 133 (.int .i64 (q:Int)) rfl ?_;refine zqI 9 134 (.pointer (some ⟨b,o+q * 3,none⟩)) rfl rfl (.slice (some ⟨b,o,none⟩) op.length d2) (.int .i64 (q:Int)) ?_;refine zqF 10 135 (.pointer (some ⟨b,o+q * 3+2,none⟩)) rfl rfl (.pointer (some ⟨b,o+q * 3,none⟩)) ?_;simp only [Act.put,zZ,zY,zX];refine zqt 5 11 rfl rfl ?_ ?_
       ·refine zqL (.string yt) rfl (.pointer (some ⟨b,o+q * 3+1,none⟩)) (K8 (w:=wr.drew) p2) ?_;simp only [Act.put,zZ,zY,zX];refine zqt 6 11 rfl rfl ?_ ?_
        ·refine J0 (X2b (.tmp 130) _ (.string yt) rfl yZ) (ht.o _) ?_;rintro e w5 ⟨rfl,rfl⟩;refine ⟨.string (J8 yt),rfl,?_⟩;simp only [Act.put,zZ,zY,zX];refine zqV 11 136 (.int .i64 yd) rfl rfl (.pointer (some ⟨b,o+q * 3+2,none⟩)) (Y1x (w:=wr.drew) p3) ?_;exact zqX T
        ·refine zqL (.int .i64 yd) rfl (.pointer (some ⟨b,o+q * 3+2,none⟩)) (Y1x (w:=wr.drew) p3) ?_;simp only [Act.put,zZ,zY,zX];refine zqo 6 rfl ?_;refine J0 (X2b (.tmp 130) _ (.string yt) rfl yZ) (ht.o _) ?_;rintro e w5 ⟨rfl,rfl⟩;refine ⟨.string (J8 yt),rfl,?_⟩;exact zqX T
       ·refine zqL (.int .i64 yd) rfl (.pointer (some ⟨b,o+q * 3+2,none⟩)) (Y1x (w:=wr.drew) p3) ?_;simp only [Act.put,zZ,zY,zX];refine zqV 5 130 (.string yt) rfl rfl (.pointer (some ⟨b,o+q * 3+1,none⟩)) (K8 (w:=wr.drew) p2) ?_;simp only [Act.put,zZ,zY,zX];refine zqo 6 rfl ?_;refine J0 (X2b (.tmp 130) _ (.string yt) rfl yZ) (ht.o _) ?_;rintro e w5 ⟨rfl,rfl⟩;refine ⟨.string (J8 yt),rfl,?_⟩;exact zqX T
  | succ i=>
    have iF:(0:Int) < ((i+1:Nat):Int):=yY;have hl:=X6h L N' 3 yX;have hL:=zW (X9w L g N' 3 wr HN.o yY yX yX);have hr:=HG.o;rw [G4] at hr;have HR:C7 true L ⟨f,op,id,N'⟩=⟨Q9 (f++[(U8 true L (X0 L (D0 L N' 3).2 8) (D0 L N' 3).1 op id ((D0 L N' 3).2+1)).1]),(U8 true L (X0 L (D0 L N' 3).2 8) (D0 L N' 3).1 op id ((D0 L N' 3).2+1)).2.1,
     (U8 true L (X0 L (D0 L N' 3).2 8) (D0 L N' 3).1 op id ((D0 L N' 3).2+1)).2.2.1,(U8 true L (X0 L (D0 L N' 3).2 8) (D0 L N' 3).1 op id ((D0 L N' 3).2+1)).2.2.2⟩:=rfl
    obtain ⟨hf,hu⟩:=FGK.step true L _ r hj.o;rw [HR] at hr hf hu;generalize D0 L N' 3=ln at hl hL hr hf hu;obtain ⟨t,M⟩:=ln;simp only at hl hL hr hf hu;have c8:=X7 L M 8 yX;have Hf:=zW (fun w h=>Z3 L g M 8 w h yY yX yX);generalize X0 L M 8=c at c8 Hf hr hf hu;have Hx:=zW hr;have hB:=zW hf;have hw:=zW hu;have hU:=zW hj.o.opsz;clear HR hf hr HG hj hu;go_wp2_with fail
    refine (hL.o).mono ?_;rintro e w2 ⟨rfl,hb2,hn2⟩;have Hi:=HB.o.trans hb2;have hI:=zW (Q8 HF.o (w':=w2) fun k hk=>by have:=HF.o.lt k hk;exact hb2.block k this.2 yY);have hR:=zW (Q8 HO.o (w':=w2) fun k hk=>by have:=HO.o.lt k hk;exact hb2.block k this.2 yY);have Hb:=zW hn2;have iD:=hn2.lt;have Hs:=zW Hi;have Hp:=Hi.size;clear hb2 hn2 Hi HF HO HN hL HB;go_upto_block 2 with (go_at_call 34;refine (Hf.o _ (by exact Hb.o.alloc _)).mono ?_;rintro e w3 ⟨rfl,hb3,hn3⟩)
    have hg:FR g w2.heap.size w (.slice A1 f.length d1) f L (.slice A2 op.length d2) op ⟨1,t,0⟩ (M+1) w3:=by
     have h0:FR g w2.heap.size w (.slice A1 f.length d1) f L (.slice A2 op.length d2) op ⟨1,t,0⟩ M (w2.alloc (.cells #[.int .i64 1,.string t,.int .i64 0] 31)):=by
      refine ⟨Q8 hI.o fun k hk=>Below.heap_alloc _ _ _ (hI.o.lt k hk).2,Q8 hR.o fun k hk=>Below.heap_alloc _ _ _ (hR.o.lt k hk).2,hH.o,fun k hk=>?_,fun k hk=>?_,Array.getElem?_push_size,Hs.o.alloc _,Hb.o.alloc _,ip,Hp⟩
      ·have:=(hI.o.lt k hk).2;omega
      ·have:=(hR.o.lt k hk).2;omega
     exact h0.call hb3 hn3
    have Hj:=hn3.lt;clear hb3 hn3 Hf hI hR Hb Hs hH;go_cut [10,11] (fun ov dv wx=>∃ (x:Tk) (op':List Tk) (id' M':Nat),dv=.int .i64 id'∧yK (U8 true L c t op id (M+1)=(x,op',id',M'))∧FR g w2.heap.size w (.slice A1 f.length d1) f L ov op' x M' wx)
    case first=>
     rcases (show (c=0∨c=1)∨c=2∨(c=3∨c=4)∨(c=5∨c=6)∨c=7 from yY) with HD | rfl | HE | h56 | rfl
     ·have hz:=X7 L (M+1) 3 yX;have HI:yK (U8 true L c t op id (M+1)=(⟨5,R6.getD (X0 L (M+1) 3).toNat ⟨#[]⟩,0⟩,op,id,M+1+1)):=by
       rcases HD with rfl | rfl<;>rfl
      rcases HD with rfl | rfl
      all_goals
       have hd:=zW (fun w h=>Z3 L g (M+1) 3 w h yY yX yX);generalize X0 L (M+1) 3=z at hz HI hd;have HU:((z.toNat:Nat):Int)=z:=yY;go_wp2_with fail
       refine (hd.o _ (by exact hg.num.alloc (.cells (R6.map Value.string).toArray 9))).mono ?_;rintro e w5 ⟨rfl,hb5,hn5⟩;have q:=C5 (xs:=R6) z hz.1 hz.2 Hj (by exact hb5);have ha:=(hg.alloc (.cells (R6.map Value.string).toArray 9)).call hb5 hn5;have Hk:=hn5.lt;obtain ⟨p0,p1,p2,p3,p4,p5⟩:=L8 ha.box;generalize R6.getD z.toNat ⟨#[]⟩=word at q HI;clear hb5 hn5 hd;go_wp2_with fail
       go_meet
       exact ⟨⟨5,word,0⟩,op,id,M+1+1,by go_num,HI.o,ha.set3 ⟨5,word,0⟩⟩
     ·have hz:=X7 L (M+1) 2 yX;have HI:yK (U8 true L 2 t op id (M+1)=(⟨4,Q4j.getD (X0 L (M+1) 2).toNat ⟨#[]⟩,(id+1:Nat)⟩,op,id+1,M+1+1)):=by
       show U8 true L 2 t op id (M+1)=_;rfl
      have hd:=zW (fun w h=>Z3 L g (M+1) 2 w h yY yX yX);generalize X0 L (M+1) 2=z at hz HI hd;have HU:((z.toNat:Nat):Int)=z:=yY;go_wp2_with fail
      refine (hd.o _ (by exact hg.num.alloc (.cells (Q4j.map Value.string).toArray 9))).mono ?_;rintro e w5 ⟨rfl,hb5,hn5⟩;have q:=C5 (xs:=Q4j) z hz.1 hz.2 Hj (by exact hb5);have ha:=(hg.alloc (.cells (Q4j.map Value.string).toArray 9)).call hb5 hn5;have Hk:=hn5.lt;obtain ⟨p0,p1,p2,p3,p4,p5⟩:=L8 ha.box;generalize Q4j.getD z.toNat ⟨#[]⟩=word at q HI;clear hb5 hn5 hd;go_wp2_with fail
      go_meet
      exact ⟨⟨4,word,((id+1:Nat):Int)⟩,op,id+1,M+1+1,by go_num,HI.o,ha.set3 ⟨4,word,((id+1:Nat):Int)⟩⟩
     ·have hz:=X7 L (M+1) 3 yX;have HI:yK (U8 true L c t op id (M+1)=(⟨2,Q6d.getD (X0 L (M+1) 3).toNat ⟨#[]⟩,(id+1:Nat)⟩,op++[⟨2,Q6d.getD (X0 L (M+1) 3).toNat ⟨#[]⟩,(id+1:Nat)⟩],id+1,M+1+1)):=by
       rcases HE with rfl | rfl<;>rfl
      rcases HE with rfl | rfl
      all_goals
       have hd:=zW (fun w h=>Z3 L g (M+1) 3 w h yY yX yX);generalize X0 L (M+1) 3=z at hz HI hd;have HU:((z.toNat:Nat):Int)=z:=yY;go_wp2_with fail
       refine (hd.o _ (by exact hg.num.alloc (.cells (Q6d.map Value.string).toArray 9))).mono ?_;rintro e w5 ⟨rfl,hb5,hn5⟩;have q:=C5 (xs:=Q6d) z hz.1 hz.2 Hj (by exact hb5);have ha:=(hg.alloc (.cells (Q6d.map Value.string).toArray 9)).call hb5 hn5;have Hk:=hn5.lt;obtain ⟨p0,p1,p2,p3,p4,p5⟩:=L8 ha.box;generalize Q6d.getD z.toNat ⟨#[]⟩=word at q HI;clear hb5 hn5 hd;have iP:=ha.but.size;go_wp2_with (at_builtin;go_must (refine X1q rfl (.tmp 63) (.tmp 65) 24 31 rfl Tryz.underlying24 _ tkC 3 32 Z7 rfl yX Q5 K2 w.heap.size _ op rfl (by exact ((ha.set3 ⟨2,word,(id:Int)+1⟩).alloc _).ownO) _ [⟨2,word,(id:Int)+1⟩] rfl (by exact RdT.one_at _ _ (Y0p _ _ _) ⟨2,word,(id:Int)+1⟩ _) (by rw [List.length_singleton];omega) yX (by simp [World.setCell];omega) ?_);intro v6 w6 hh hD hF hC;obtain ⟨A6,d6,iu⟩:=Q0 hh;subst iu;have ic:=zW hh;have hK:=zW hF;have HV:=zW hC;clear hh hD hF hC)
       go_meet
       have e6:(op++[(⟨2,word,(id:Int)+1⟩:Tk)]).length=op.length+1:=yW;have Hu:=((ha.set3 ⟨2,word,(id:Int)+1⟩).alloc _).push ic.o hK.o HV.o;rw [e6] at Hu;exact ⟨⟨2,word,(id:Int)+1⟩,op++[⟨2,word,(id:Int)+1⟩],id+1,M+1+1,by go_num,(by exact HI.o),Hu⟩
     ·by_cases hop0:0 < op.length
      ·obtain ⟨k,HM⟩:∃ k:Nat,op.length=k+1:=⟨op.length - 1,yY⟩;have hk:k < op.length:=yY;have hK:yK (op.getLastD ⟨0,⟨#[]⟩,0⟩=op.getD k ⟨0,⟨#[]⟩,0⟩):=by
        show _=_;rw [List.getLastD_eq_getLast?,List.getLast?_eq_getElem?,List.getD_eq_getElem?_getD,show op.length - 1=k by omega]
       have Hw:yK (op.dropLast=op.take k++op.drop (k+1)):=by
        show _=_;rw [List.drop_eq_nil_of_le yY,List.append_nil,List.dropLast_eq_take,show op.length - 1=k by omega]
       have HI:yK (U8 true L c t op id (M+1)=(⟨3,J8 (op.getD k ⟨0,⟨#[]⟩,0⟩).t,(op.getD k ⟨0,⟨#[]⟩,0⟩).d⟩,op.take k++op.drop (k+1),id,M+1)):=by
        show U8 true L c t op id (M+1)=_;unfold U8;rw [if_neg yY,if_neg yY,if_neg yY,if_pos ⟨yY,hop0⟩,hK.o,Hw.o]
       rcases h56 with rfl | rfl
       all_goals
        clear hK Hw;have hk':(k:Int) < (op.length:Int):=yY;obtain ⟨g2,c2,Hq,io⟩:=X6u hg.ownO hop0;injection Hq with Hh _ hd2;subst Hh hd2;have iq:(op.length:Int) - 1=(k:Int):=yY;have iG:(0:Int)≤(k:Int):=yY;have Hl:(0:Int)≤(op.length:Int) - 1:=yY;have Hm:(1:Int)≤(op.length:Int):=yY;have ha:=hg;have iy:=zW HM;clear HM;go_upto_region 27 with fail
        clear iq Hl Hm;have Hk:=hg.num.lt;obtain ⟨p0,p1,p2,p3,p4,p5⟩:=L8 ha.box;obtain ⟨b',o',Hg,ik,r1,r2,r3⟩:=RdT.at_ (OwnE.rd Q5 ha.ownO) k hk;injection Hg with Hg;injection Hg with e1 e2 _;subst e1 e2;rw [Nat.zero_add] at r1 r2 r3;have hW:=hU.o op[k] (List.getElem_mem hk);have Hv:yK (op.getD k ⟨0,⟨#[]⟩,0⟩=op[k]):=by
         show op.getD k ⟨0,⟨#[]⟩,0⟩=op[k];rw [List.getD_eq_getElem?_getD,List.getElem?_eq_getElem hk,Option.getD_some]
        rw [Hv.o] at HI;generalize op[k]=y at r1 r2 r3 hW HI;have ht:=fun w=>B5 y.t w yY;have hx:=zW ht;clear ht Hv;go_wp2_with fail
        go_region_with ((go_at_call 36;refine (hx.o _).mono ?_;rintro e w' ⟨rfl,rfl⟩))
        all_goals
         clear r1 r2 r3 p0 p1 p2 p3 p4 p5 hx;have hp:=(ha.set3 ⟨3,J8 y.t,y.d⟩).drew;have ewr:IntKind.i64.wrap ((k:Int)+1)=(k:Int)+1:=(by rw [IntKind.wrap_i64];omega);have iI:(0:Int)≤(k:Int)+1:=yY;have iJ:(k:Int)+1≤(op.length:Int):=yY;have iK:((k:Int)+1).toNat=k+1:=yY;have iB:=RdE.cap (OwnE.rd Q5 hp.ownO);have iH:k≤d2:=yY;have hi:=hp.drew;have Hn:=OwnE.rd Q5 hi.ownO;have S1:=zW (Hn.take k yY);obtain ⟨A,hA,Ho⟩:∃ A:Option Addr,(if d2=k+1 then some (⟨g2,0,none⟩:Addr) else some ⟨g2,(k+1) * 3,none⟩)=A∧yK (RdT ((((w3.setCell ⟨w2.heap.size,0,none⟩ (.int .i64 3)).setCell ⟨w2.heap.size,1,none⟩ (.string (J8 y.t))).setCell ⟨w2.heap.size,2,none⟩ (.int .i64 y.d)).drew.drew) (.slice A (op.length - (k+1)) (d2 - (k+1))) (op.drop (k+1))):=by
          refine ⟨_,rfl,show RdT _ _ _ from Hn.drop (k+1) yY _ (fun h=>?_) (fun h=>?_)⟩
          ·rw [if_neg yY,Nat.zero_add]
          ·split at h<;>cases h
         have iz:=hi.but.size;have HY:=zW hi;have t1:(op.take k).length=k:=(by rw [List.length_take];omega);have t2:(op.drop (k+1)).length=op.length - (k+1):=List.length_drop;have T1:=zW t1;have T2:=zW t2;clear Hn ha hp hi hg t1 t2;go_wp2_with fail
         go_region_law (first
          | (refine T0 rfl (.const (.slice none 0 0)) (.tmp 95) 24 31 rfl Tryz.underlying24 _ tkC 3 32 Z7 rfl yX Q5 K2 _ (.slice none 0 0) [] rfl (by exact OwnE.nil) (.slice (some ⟨g2, 0, none⟩) k d2) (op.take k) (by simp [Act.eval, Act.put]) (by exact S1.o) (by rw [T1.o]; simp; omega) yX yQ ?_
             intro v7 w7 hown7 hbel7 hgr7 _;rw [List.nil_append] at hown7;have ie:=zW hown7;have hY:=zW (hbel7 _ _ yQ (Below.refl _ _));have ix:=hY.o.size;clear hown7 hbel7 hgr7)
          | (refine T0 rfl (.tmp 96) (.tmp 100) 24 31 rfl Tryz.underlying24 _ tkC 3 32 Z7 rfl yX Q5 K2 _ v7 (op.take k) (by simp [Act.eval]) (by exact ie.o) (.slice A (op.length - (k + 1)) (d2 - (k + 1))) (op.drop (k + 1)) (by simp [Act.eval]) (by exact RdE.below Ho.o hY.o yQ) (by rw [T1.o, T2.o]; omega) yX ix ?_
             intro v8 w8 hown8 hbel8 hgr8 _;have ig:=zW hown8;have HW:=zW (hbel8 _ _ yQ hY.o);clear hown8 hbel8 hgr8))
         go_wp2_with fail
         go_meet
         exact ⟨⟨3,J8 y.t,y.d⟩,op.take k++op.drop (k+1),id,M+1,rfl,HI.o,HY.o.fresh HW.o ig.o⟩
      ·obtain rfl:op=[]:=List.eq_nil_of_length_eq_zero yY;have HI:yK (U8 true L c t [] id (M+1)=(⟨1,t,0⟩,[],id,M+1)):=by
        show U8 true L c t [] id (M+1)=_;unfold U8;rw [if_neg yY,if_neg yY,if_neg yY,if_neg (fun h=>by simp at h)]
       rcases h56 with rfl | rfl
       all_goals
        go_wp2_with fail
        go_meet
        exact ⟨⟨1,t,0⟩,[],id,M+1,rfl,HI.o,hg⟩
     ·have HI:yK (U8 true L 7 t op id (M+1)=(⟨1,t,0⟩,op,id,M+1)):=by
       show U8 true L 7 t op id (M+1)=_;unfold U8;rw [if_neg yX,if_neg yX,if_neg yX,if_neg (fun h=>by have h2:=h.1;revert h2;decide)]
      go_wp2_with fail
      go_meet
      exact ⟨⟨1,t,0⟩,op,id,M+1,rfl,HI.o,hg⟩
    case rest=>
     obtain ⟨x,op',id',M',rfl,HC,HX⟩:=hcut;have hG:=Hx.o;have hO:=hB.o;have HH:=hw.o;rw [HC.o] at hG hO HH;simp only at hG hO HH;have HZ:=zW hG;have ih:=zW hO;have iM:x.t.size≤18:=(X5z true L c t op id (M+1) r hl.1 HP hU.o HL (fun h=>by cases h) x op' id' M' HC.o).1;obtain ⟨p0,p1,p2,_⟩:=L8 HX.box;clear hG hO Hx hB hw;go_wp2_with fail
     refine (Q6m f [x] _ _ _ (by exact (OwnE.rd Q5 HX.own).alloc _) (by exact RdT.one_at _ _ rfl x _) (by rw [List.length_singleton];omega) (by rw [D5];omega)).mono ?_;rintro e w9 ⟨v9,rfl,hc,HJ⟩;have hS:=zW hc;have hv:=zW (((Below.refl wc.heap.size wc).alloc yQ _).trans (HJ.mono yW));clear hc HJ;go_wp2_with fail
     have iR:=HX.but.size;have iQ:(wc.alloc (.cells (tkC x).toArray 31)).heap.size=wc.heap.size+1:=yW;go_roundg i
     case measure=>omega
     case rel=>exact ⟨⟨Q9 (f++[x]),op',id',M'⟩,i,r+1,rfl,by go_num,yY,by show M'≤_;omega,ih.o,Y7 hS.o (by show w.heap.size≤(wc.alloc (.cells (tkC x).toArray 31)).heap.size;omega),Q8 HX.ownO (fun k hk=>hv.o.block k (HX.ownO.lt k hk).2),(fun k hk e=>by have h1:(wc.alloc (.cells (tkC x).toArray 31)).heap.size≤k:=(hS.o.lt k hk).1;have h2:=(HX.ownO.lt k e).2;omega),HX.but.trans (But.of_below hv.o),HX.num.keepg fun k hk=>hv.o.block k yY,HZ.o,yQ⟩
end Go.Proofs.YtfkojnofbpdjdaaGreatDoor
