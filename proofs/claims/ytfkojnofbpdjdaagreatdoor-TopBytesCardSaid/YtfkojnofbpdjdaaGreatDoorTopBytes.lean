
/-
  TopBytes: a document whose segments are replaced by made targets has the bytes of both.
-/
import Derived.Test.YtfkojnofbpdjdaaGreatDoorPackB6
import Derived.Test.YtfkojnofbpdjdaaGreatDoorPackB7
import Derived.Test.YtfkojnofbpdjdaaGreatDoorPackB4
set_option linter.unusedVariables false
set_option linter.unusedSimpArgs false
set_option maxHeartbeats 16000000
set_option maxRecDepth 100000

namespace Go.Proofs.YtfkojnofbpdjdaaGreatDoor
open Go.Proofs.Tryz
open Go.RowKit
theorem V2m {a:Act} {w:World} {o:Oper} (x:Operand) (A:Option Addr) (n c:Nat) (ho:o.op=.call { callee:=.builtin .len,args:=#[x],argTypes:=#[48] }) (hx:a.eval x=.slice A n c):(execOp a.eval o).run prog w=.ok (.value (.int .i64 (n:Nat))) w:=by
  generalize a.eval=ρ at hx ⊢;unfold execOp;simp only [ho];go_simp
theorem Z9v {w : World} {A : Option Addr} {n c : Nat} {L : List (List Tk)} {t : List Tk} (h : RdTT w (.slice A n c) (L ++ [t])) :
    ∃ b o A' c',A=some ⟨b,o,none⟩∧b < w.heap.size∧w.cell? ⟨b,o+L.length,none⟩=some (.slice A' t.length c')∧RdT w (.slice A' t.length c') t:=by
  obtain ⟨b,o,A',c',h1,h2,h3,h4⟩:=RdTT.at_ h L.length yW;rw [bK yQ] at h3 h4;simp only [cZ,List.getElem_cons_zero] at h3 h4;exact ⟨b,o,A',c',h1,h2,h3,h4⟩
theorem Z5f (al:List UInt8) (rb:fY) (a b:Nat):(ofL al++rb).extract a b=ofL (((al++rb.data.toList).take b).drop a):=by
  apply cB;apply Array.ext';rw [cX,dG,cU,ByteArray.data_append,Array.toList_append];show _=(((al++rb.data.toList).take b).drop a).toArray.toList;rw [eT];show List.take (b - a) (List.drop a ((ofL al).data.toList++_))=_;rw [M1]
set_option maxRecDepth 100000 in
set_option maxHeartbeats 8000000 in
theorem Y5m (m : Int) (L Lm : List Int) (A A' : Option Addr) (c c' : Nat) (w : World) (hm : w.cell? ⟨0, 0, none⟩ = some (.int .i64 m)) (h : RdE V7 1 w (.slice A L.length c) L) (hin : ∀ x ∈ L, H7 x) (h' : RdE V7 1 w (.slice A' Lm.length c') Lm) (hin' : ∀ x ∈ Lm, H7 x) :
    Calls prog 4 #[.slice A L.length c,.slice A' Lm.length c'] w (fun e w'=>e=.returned (.bool true)∧Below w.heap.size w w'):=by
  have CK:=zW (fun (W:World) (hW:Below w.heap.size w W)=>Y5n m W (X8 hm hW));have HI:=zW (aB w.heap.size w);by_cases hl1:200 < L.length
  · have jz:(200:Int) < (L.length:Int):=yY
    clear h hin h' hin' hm;go_enter func4,ntmps4
    go_wp2_with (go_at_call 7;refine (CK.o _ (by exact HI.o)).mono ?_;rintro e w1 ⟨rfl,hE⟩;have hL:=zW hE;clear hE)
    go_ret
    exact ⟨rfl,hL.o⟩
  have jz:¬ (200:Int) < (L.length:Int):=yY;by_cases HE:200 < Lm.length
  · have jA:(200:Int) < (Lm.length:Int):=yY
    clear h hin h' hin' hm;go_enter func4,ntmps4
    go_wp2_with (go_at_call 7;refine (CK.o _ (by exact HI.o)).mono ?_;rintro e w1 ⟨rfl,hE⟩;have hL:=zW hE;clear hE)
    go_ret
    exact ⟨rfl,hL.o⟩
  have jA:¬ (200:Int) < (Lm.length:Int):=yY;have hf:=V3u L;obtain ⟨ja,iZ,jb⟩:=Y8f L 1 3 yX (mdF L) hf;have jc:∀ u∈(mdD L).un.1,UnitW (mdF L) u.ts∧ntx (X0 u.ts)≤10∧(X0 u.ts).length≤125∧(E5 [G8] (Q4 (X0 u.ts))).length≤16:=fun u hu=>by
    obtain ⟨M,e⟩:=Z8u L 1 3 yX (mdF L) hf u hu;rw [e];exact ⟨U4e (mdF L) hf L M,V6l (mdF L) hf L M⟩
  have jj:=V3s L 1 3 yX (mdF L) hf;have HK:=zW (fun hs=>U1a m (mdF L) hf Lm (mdD L) ja iZ jb hs jc jj);have ip:yK (Y0 (mdD L).ps=(mdD L).data):=(mdD L).bytes;have CM:=zW (V3t L A c w h hin);have HM:yK (∀ W,Below w.heap.size w W→W.cell? ⟨0,0,none⟩=some (.int .i64 m)):=fun W hW=>X8 hm hW;have CSN:=zW (fun W=>Z0a W);have iA:=zW h';have iz:=zW hin';have ix:=zW hf;clear h hin hm ja iZ jb jc hl1 HE h' hin' jj hf;generalize ksU (mdD L).un.1 0=ks at *;generalize (mdD L).data=dat at *;generalize (mdD L).ps=ps at *;generalize mdF L=fmt at *;go_enter func4,ntmps4
  go_upto_region 4 with (go_at_call 17;refine (CM.o).mono ?_;rintro e w1 ⟨A1,c1,rfl,ho,hl,hb⟩;have iD:=zW ho;have HL:=zW hl;have hL:=zW hb;clear ho hl hb)
  obtain ⟨pe,hh⟩:=HK.o HL.o;have Hu:=zW ((OwnE.rd D3 iD.o).below ((aB w1.heap.size w1).alloc yQ (.cells #[.int .i64 fmt,.slice A1 ps.length c1] 41)) yQ);have Ha:=zW (hL.o.alloc hL.o.size (.cells #[.int .i64 fmt,.slice A1 ps.length c1] 41));have hQ:yK ((w1.alloc (.cells #[.int .i64 fmt,.slice A1 ps.length c1] 41)).heap[w1.heap.size]? =some (.cells #[.int .i64 fmt,.slice A1 ps.length c1] 41)):=aT w1 _;generalize w1.alloc (.cells #[.int .i64 fmt,.slice A1 ps.length c1] 41)=w2 at Hu Ha hQ ⊢;generalize w1.heap.size=gd at hQ ⊢;clear iD hL HI CM HK;have Ho:gd < w2.heap.size:=J5 hQ.o;have ka:=hh.un.len;have jU:(Y0 ps).length≤25000:=(by rw [ip.o];have:=HL.o;omega);have jH:=hh.len;have CP:=zW (fun (A:Option Addr) (c:Nat) (vr:Value) (W:World) (hW:Below w.heap.size w W) hp hr=>Z2j m fmt ps ks hh.un A c vr W (HM.o W hW) hp hr);have kb:=hh.cnt;have Hq:=hh.un.idx;have hH:D5 ps 0=(ks.map fun x=>x.1).map fun (k:Nat)=>(k:Int):=(by rw [Hq,fQ];rfl);have Hl:=Q4y Lm (V0 ks) 0;have CT:=zW (fun (A A1 A2:Option Addr) (c c1 c2:Nat) (W:World) (hW:Below w.heap.size w W) hp jL hT=>X9z m fmt ps pe (V0 ks) (F1 Lm (V0 ks) 0).1 (ks.map fun x=>x.1) hH hh.tr Hl.symm yY yY A A1 A2 c c1 c2 W (HM.o W hW) hp jL hT);have jG:=hh.sz;have CB:=zW (fun (A:Option Addr) (c:Nat) (W:World) hp=>Q4b fmt ps A c W hp yY yY);have CE:=zW (fun (A:Option Addr) (c:Nat) (W:World) hp=>Q4b fmt pe A c W hp yY yY);have iM:=zW hh.src;have jq:=zW hh.enc;have iN:=zW hh.srt;have jv:=zW hh.top;have js:=zW (fun (k:Nat) (hk:k < ps.length) (jK:k < pe.length)=>V4i fmt ix.o k (V0 ks) (F1 Lm (V0 ks) 0).1 Hl.symm _ _ (hh.part k hk jK));rw [Hl] at CT;clear hh Hq hH HM ip HL;rw [jH] at CT CE;generalize V0 ks=PP at *;have iP:=zW (fun i=>V0s Lm PP 0 i);have ju:=zW (fun i h=>Z3t Lm PP 0 i h);obtain ⟨d0,d1⟩:=Q3j hQ.o;go_cut [6,7] (fun v4 v5 wx=>∃ (Ap:Option Addr) (cp:Nat),v4=.slice Ap PP.length cp∧v5=.bool true∧yK (RdPc wx (.slice Ap PP.length cp) PP)∧yK (Below w2.heap.size w2 wx))
  case first=>
    go_region_with (first
      | (go_at_call 19;refine (CSN.o _).mono ?_;rintro e W11 ⟨vr,rfl,hr,hb⟩;have ib:=zW hr;have hw:=zW ((Q1 (aB w2.heap.size w2) 1).trans hb);obtain ⟨u0,u1⟩:=Q3j ((hw.o.block gd Ho).trans hQ.o);clear hr hb)
      | (go_at_call 18;refine (CP.o _ _ _ _ (by exact Ha.o.trans (hw.o.mono Ha.o.size)) (by exact RdE.below Hu.o hw.o yQ) (by exact ib.o)).mono ?_;rintro e W12 ⟨v,rfl,⟨ys,jm⟩,hb⟩;have HY:=zW jm.rd;have HJ:=zW (hw.o.trans (hb.mono hw.o.size));clear jm hb))
    all_goals (
      obtain ⟨Ap,cp,hv,_⟩:=HY.o.shape;subst hv;go_wp2_with fail
      go_meet
      exact ⟨Ap,cp,rfl,rfl,HY.o,HJ.o⟩)
  case rest=>
    obtain ⟨Ap,cp,rfl,rfl,iH,Ht⟩:=hcut;generalize wc=w4 at *;have ic:=zW ((Ht.o.block gd Ho).trans hQ.o);have iF:=zW (RdE.below Hu.o Ht.o yQ);have HR:=zW (Ha.o.trans (Ht.o.mono Ha.o.size));clear hQ Hu Ha Ht Ho d0 d1 CP CSN;rename_i w4;have Ho:gd < w4.heap.size:=J5 ic.o;have hd:yK (Nums (w4.alloc (.cells #[.slice A' Lm.length c',.int .i64 0] 29)) w4.heap.size Lm 0):=
      ⟨.slice A' Lm.length c',w4,aT w4 _,iA.o.below HR.o yQ,yQ,fun k hk=>bE _ _ _ hk,iz.o⟩
    have hA:yK (Below w4.heap.size w4 (w4.alloc (.cells #[.slice A' Lm.length c',.int .i64 0] 29))):=(aB _ _).alloc yQ _;have Hk:=zW ((hA.o.block gd Ho).trans ic.o);obtain ⟨g,hg⟩:∃ g,yK (g=w4.heap.size):=⟨_,rfl⟩;go_upto_region 6 with fail
    generalize w4.alloc (.cells #[.slice A' Lm.length c',.int .i64 0] 29)=w5 at hd hA Hk ⊢;rw [←hg.o] at hd ⊢;have hz:g < w5.heap.size:=hd.o.lt;obtain ⟨d0,d1⟩:=Q3j Hk.o;go_upto_region 10 with fail
    generalize hT:(F1 Lm PP 0).1=T at *;have hC:yK (∀ W,But g w5 W→Below w4.heap.size w4 W):=fun W hW=>hA.o.trans (by rw [←hg.o];exact hW.below yQ yY);have HZ:yK (∀ W,But g w5 W→W.heap[gd]? =some (.cells #[.int .i64 fmt,.slice A1 ps.length c1] 41)):=fun W hW=>(hW.block gd (J5 Hk.o) (by rw [hg.o];omega)).trans Hk.o;have jE:=Hl;clear ic Hk Hl d0 d1 iA iz hA;go_loopg [9,10,11,12,46] ps.length (fun gk tv wv av lv iv wz=>∃ (k n at_:Nat) (want:List UInt8) (ys:List Tv),iv=.int .i64 (k:Nat)∧wv=.string (ofL want)∧av=.int .i64 (at_:Nat)∧lv=.string (ofL (Y0 (ps.take k)))∧k≤ps.length∧yK (X6p PP k 0 n)∧yK (want++(Y0 (ps.take k)).drop at_=Y0 (pe.take k))∧at_≤(Y0 (ps.take k)).length∧yK (TtP w5.heap.size wz tv (T.take n) ys)∧yK (Nums wz g Lm (F1 Lm (PP.take n) 0).2)∧yK (But g w5 wz)∧ps.length - k≤gk)
    case atStart=>exact ⟨0,0,0,[],[],rfl,rfl,rfl,rfl,aO _,V7m PP,rfl,aO _,TtP.nil,hd.o,But.refl _ _,yQ⟩
    case round=>
      clear hd;obtain ⟨k,n,at_,want,ys,rfl,rfl,rfl,rfl,hk,ht,Hv,Hy,ha,hd,hc,hgk⟩:=hrel;generalize wr=wa at *;have hU:gd < wa.heap.size:=J5 (HZ.o _ hc.o);obtain ⟨d0,d1⟩:=Q3j (HZ.o _ hc.o);by_cases hlt:k < ps.length
      · obtain ⟨cf,ji,iY,Hn⟩:=js.o k hlt yY
        have CD:=zW Hn;have iL:=zW ji;have ir:=zW iY;clear Hn ji iY;obtain ⟨bq,oq,jB,hR,_,_,x24⟩:=RdP.at_ iF.o k hlt;subst jB;have ie:=zW (fun W (hW:Below w4.heap.size w4 W)=>(hW.cell (p:=⟨bq,oq+k * 3+2,none⟩) hR).trans x24);have x2:=ie.o _ (hC.o _ hc.o);have ii:bq < wa.heap.size:=bC hR (hC.o _ hc.o).size;clear x24 hR;have jd:=X3j ps (k+1);have ik:=Q6n ps k hlt;have je:=Q6n pe k yY;have kc:(Y0 (ps.take k)).length+ps[k].raw.size≤25000:=by
          rw [ik,aA] at jd;rw [aC];omega
        have hj:=zW (Z7h (fmt:=fmt) Hv.o Hy iL.o ir.o);rw [←je] at hj;have iy:=zW ik;have jJ:(Y0 (pe.take (k+1))).length≤60000:=aP (X3j pe (k+1)) jG;clear jd ik je iL ir Hv Hy;obtain ⟨goal,hG⟩:∃ goal,yK (Y0 (pe.take (k+1))=goal):=⟨_,rfl⟩;rw [hG.o] at hj jJ;generalize ps[k].raw=raw at *;have io:=hc.o.size;have jW:(k:Int) < (ps.length:Int):=yY;generalize Y0 (ps.take k)=al at *;obtain ⟨ab,Hx⟩:∃ ab,yK (ofL al=ab):=⟨_,rfl⟩;have jS:ab.size=al.length:=(by rw [←Hx.o,Q6]);rw [Hx.o];go_upto_region 12 with fail
        refine zqR (l0:=bL 18 0) 18 kr ?_;show let oo:=_;let q0:=_;let a0:=_;wpAny prog _ oo q0 _ _ a0 _
        intro oo q0 a0;let a_:Act:=((a0.put (some 50) (.pointer (some ⟨gd,0,none⟩))).put (some 52) (.pointer (some ⟨gd,1,none⟩))).put (some 54) (.int .i64 (k:Nat))
        let a_0:Act:=a_.put (some 51) (.int .i64 fmt)
        let a_1:Act:=((a_.put (some 53) (.slice (some ⟨bq,oq,none⟩) ps.length c1)).put (some 55) (.pointer (some ⟨bq,oq+k * 3,none⟩))).put (some 56) (.pointer (some ⟨bq,oq+k * 3+2,none⟩))
        let a_01:Act:=((a_0.put (some 53) (.slice (some ⟨bq,oq,none⟩) ps.length c1)).put (some 55) (.pointer (some ⟨bq,oq+k * 3,none⟩))).put (some 56) (.pointer (some ⟨bq,oq+k * 3+2,none⟩))
        let a_12:Act:=a_1.put (some 57) (.string raw)
        let a_012:Act:=a_01.put (some 57) (.string raw)
        let a_0123:Value→Value→Value→Value→Act:=fun va vc vb vd=>(((((((((a_012.put (some 58) (.tuple #[va,vc,vb,vd])).put (some 49) (.tuple #[va,vc,vb,vd])).put (some 59) (va)).put (some 60) (vc)).put (some 61) (vb)).put (some 62) (vd)).put (some 14) (va)).put (some 15) (vc)).put (some 16) (vb)).put (some 17) (vd)
        have S0123:∀ (W:World) (va:Value) (vc:Value) (vb:Value) (vd:Value),Below wa.heap.size wa W→CutV w5.heap.size W k PP cf vc→wpAny prog .any oo q0 0 (bL 18 262143) (a_0123 va vc vb vd) W:=by
          intro W va vc vb vd HB HC;simp only [a_0123,a_012,a_01,a_0,a_,a0,Act.put,zZ,zY,zX];refine bW yZ ?_ _;simp only [q0];clear a_0123 a_012 a_12 a_01 a_1 a_0 a_ a0 q0 oo;have hO:=zW HC;have Hi:=zW (ha.o.but (But.of_below HB) hz);have Hg:=zW (hd.o.below HB yQ);have He:=zW (U0y hc.o (HB.mono io));clear HB HC ha hd hc d0 d1 x2 io ii;generalize W=wb at *;go_upto_region 14 with fail
          go_loopg [9,10,11,65] PP.length (fun gk2 tv wv av iv wz=>∃ (i n at_:Nat) (want:List UInt8) (ys:List Tv),iv=.int .i64 (i:Nat)∧wv=.string (ofL want)∧av=.int .i64 (at_:Nat)∧i≤PP.length∧yK (X6p PP k i n)∧yK (BsI fmt raw.data.toList al want at_ cf (V4 k (PP.drop i)) (K7 k (PP.drop i) (T.drop i)) goal)∧yK (TtP w5.heap.size wz tv (T.take n) ys)∧yK (Nums wz g Lm (F1 Lm (PP.take n) 0).2)∧yK (But g w5 wz)∧yK (CutV w5.heap.size wz k PP cf vc)∧PP.length - i≤gk2)
          case atStart=>exact ⟨0,n,at_,want,ys,rfl,rfl,rfl,aO _,ht.o,hj.o,Hi.o,Hg.o,He.o,hO.o,yQ⟩
          case round=>
            clear Hi Hg He hO ht hj;obtain ⟨i,n,at_,want,ys,rfl,rfl,rfl,hi,ht,hj,ha,hd,hc,hO,jI⟩:=hrel;obtain ⟨kd,jF⟩:=Z4k hj.o;by_cases he:i < PP.length
            · obtain ⟨bp,op,A9,c9,jC,Hm,s0,s1,s2,s3,hs⟩:=RdPc.at_ iH.o i he
              subst jC;have Hz:=hC.o _ hc.o;have r0:=(Hz.cell (p:=⟨bp,op+i * 4,none⟩) Hm).trans s0;have r2:=(Hz.cell (p:=⟨bp,op+i * 4+2,none⟩) Hm).trans s2;have r3:=(Hz.cell (p:=⟨bp,op+i * 4+3,none⟩) Hm).trans s3;have Hd:i < T.length:=yY;by_cases hpk:PP[i].pt=k
              · obtain rfl:n=i:=U3d PP iN.o k i n ht.o he hpk
                obtain ⟨e1,e2⟩:=Y8t k PP T n he Hd hpk;have hS:=hj.o;rw [e1,e2] at hS;obtain ⟨b1,b2,b3,b4⟩:=V1o hS;have HQ:=zW b4;have hP:=zW (U1h PP iN.o k n ht.o he hpk);rcases hO.o with hno | ⟨zs,Ac,cc,rfl,hzo,hzl,hzc⟩
                · exact absurd hpk (hno _ (aL he))
                obtain ⟨z1,z2,z3,z4⟩:=hzc _ (aL he) hpk;have jy:=zW hzc;have iS:=zW hzo;have hZ:=iM.o _ (aL he);have iV:=Z6z Lm (PP.take n) 0 fun q hq=>(iM.o q (bY hq)).1;rw [bG] at iV;have im:=ju.o n he;have hX:Q4 (K1 Lm PP[n].src (F1 Lm (PP.take n) 0).2).1=T[n]:=by
                  have e:=iP.o (n+1);rw [im,iP.o n,aH Hd] at e;change _++[_]=_ at e
                  have e2:=List.append_cancel_left e;injection e2
                have iU:(K1 Lm PP[n].src (F1 Lm (PP.take n) 0).2).2=(F1 Lm (PP.take (n+1)) 0).2:=(by rw [im]);have CG:=zW (fun (W:World) (hN:Nums W g Lm (F1 Lm (PP.take n) 0).2) (hs:∀ V,But g W V→RdT V (.slice A9 (PP[n]'he).src.length c9) (PP[n]'he).src)=>Z3s Lm g (F1 Lm (PP.take n) 0).2 PP[n].src A9 c9 W hN hs hZ.1 hZ.2 yY);rw [hX,iU] at CG;have HS:=zW (fun W (hW:Below w4.heap.size w4 W)=>RdE.below hs hW yQ);have HD:=jq.o _ (aL Hd);have CR:=zW (fun v W (h1:RdT W v (T[n]'Hd))=>Y9d fmt ix.o T[n] v W h1 HD.1 HD.2.1 HD.2.2);have jw:=zW (aH Hd);have HH:=ha.o.len;rw [bG,Nat.min_eq_left yY] at HH;have jQ:ys.length≤400:=yY;have iI:=zW (fun W (hW:Below w4.heap.size w4 W)=>(hW.cell (p:=⟨bp,op+n * 4+1,none⟩) Hm).trans s1);have iJ:=zW (fun W (hW:Below w4.heap.size w4 W)=>(hW.cell (p:=⟨bp,op+n * 4+2,none⟩) Hm).trans s2);clear hs hZ iV im hX iU e1 e2 hS hj ht b4 hzc hzo hO s0 s1 s2 s3 HD;generalize T[n]=t at *;generalize PP[n]=p at *;obtain ⟨pt,lo,hY,sr⟩:=p;simp only at hpk r0 r2 r3 z1 z2 z3 z4 b1 b2 b3 iI iJ CG HS HQ;rw [hpk] at r0;have ke:¬ (zs.length:Int)≤(hY:Int):=yY;go_upto_region 17 with fail
                have jn:=hc.o.size;go_upto_region 18 with (first
                  | (go_at_call 21;refine (CG.o _ (by exact hd.o) (by exact fun V hV=>HS.o V (hC.o V (hc.o.trans hV)))).mono ?_;rintro e w7 ⟨v7,rfl,ho,hb,hn⟩;obtain ⟨At,ct,hv⟩:=Q0 ho;subst hv;have hy:=(aB w7.heap.size w7).alloc yQ (.cells #[.slice At t.length ct] 24);have Hj:=zW ((ha.o.but hb hz).but (But.of_below hy) hz);have iC:=zW (hn.below hy yQ);have HX:=zW ((hc.o.trans hb).trans (But.of_below hy));have iE:=zW (Y3 (aD ho (.cells #[.slice At t.length ct] 24)) jn);have it:=zW (V8w (V8w iS.o hb hz) (But.of_below hy) hz);clear ho hb hn hy)
                  | (at_builtin;refine V2 rfl (.tmp 86) (.tmp 94) 48 24 rfl underlying48 _ tvC 1 24 Z7c rfl yX X6n Z7b w5.heap.size _ ys rfl (by exact Hj.o.own) _ [⟨t,At,ct⟩] rfl (by exact Z3 tvC 1 X6n _ _ yW ⟨t,At,ct⟩ _) yV yX HX.o.size ?_;intro v8 w8 hI hF hD;have Hc:=zW (Hj.o.push ⟨t,At,ct⟩ iE.o hI hD);have iB:=zW (Hj.o.numsG hD iC.o hz);have iX:=hF w5.heap.size _ yQ (aB _ _);have Hf:=zW (U0y HX.o iX);have iq:=zW (Hj.o.other hD it.o yX);clear hI hF hD iX Hj iC HX iE it))
                clear ha hd hc iS jn r0 r2 r3 CG;obtain ⟨A8,c8,jP⟩:=Q0 Hc.o.own;subst jP;obtain ⟨bt,ot,Aq,cq,jD,ij,HF,jh⟩:=Z9v Hc.o.rd;subst jD;rw [bG,Nat.min_eq_left yY] at HF;have iK:=zW jh;rw [←jw.o] at Hc;obtain ⟨ln,jf⟩:∃ ln,yK ((ys++[(⟨t,At,ct⟩:Tv)]).length=ln):=⟨_,rfl⟩;have HE:ln=n+1:=(by rw [←jf.o,aA,HH];rfl);rw [jf.o] at Hc ⊢;have hJ:=U2j (.tmp 101) (.const (.int .i64 1)) n ln HE yY;have hK:=U3q bt ot n ln c8 yY;have Hp:gd < w8.heap.size:=J5 (HZ.o _ Hf.o);obtain ⟨d0,d1⟩:=Q3j (HZ.o _ Hf.o);clear jh;go_upto_region 18 with fail
                refine zqR (l0:=bL 14 0) 14 kr ?_;show let o2:=_;let q2:=_;let b0:=_;wpAny prog _ o2 q2 _ _ b0 _
                intro o2 q2 b0;let a_:Act:=(((((b0.put (some 97) (.pointer (some ⟨gd,0,none⟩))).put (some 99) (.slice (some ⟨bt,ot,none⟩) ln c8)).put (some 100) (.slice (some ⟨bt,ot,none⟩) ln c8)).put (some 101) (.int .i64 (ln:Nat))).put (some 102) (.int .i64 (n:Nat))).put (some 103) (.pointer (some ⟨bt,ot+n,none⟩))
                let a_0:Act:=a_.put (some 98) (.int .i64 fmt)
                let a_1:Act:=a_.put (some 104) (.slice Aq t.length cq)
                let a_01:Act:=a_0.put (some 104) (.slice Aq t.length cq)
                let a_012:Act:=(((((a_01.put (some 105) (.tuple #[.string (ofL (V3 fmt t)),.int .i64 0])).put (some 96) (.tuple #[.string (ofL (V3 fmt t)),.int .i64 0])).put (some 106) (.string (ofL (V3 fmt t)))).put (some 107) (.int .i64 0)).put (some 19) (.string (ofL (V3 fmt t)))).put (some 20) (.int .i64 0)
                have S012:∀ (W:World),Below w8.heap.size w8 W→wpAny prog .any o2 q2 0 (bL 14 16383) a_012 W:=by
                  intro W HB;simp only [a_012,a_01,a_0,a_,b0,Act.put,zZ,zY,zX];refine bW yZ ?_ _;simp only [q2];clear a_012 a_01 a_1 a_0 a_ b0 q2 o2;subst HE;have jt:=zW (Hc.o.but (But.of_below HB) hz);have jr:=zW (iB.o.below HB yQ);have HW:=zW (U0y Hf.o (HB.mono Hf.o.size));have HT:=zW (V8w iq.o (But.of_below HB) hz);clear HB Hc iB Hf iq d0 d1 iK CR HF ij hJ hK;generalize W=w9 at *;have ih:=hC.o _ HW.o;obtain ⟨d0,d1⟩:=Q3j (HZ.o _ HW.o);have x2:=ie.o _ ih;have r1:=iI.o _ ih;have r2:=iJ.o _ ih;obtain ⟨bc,oc,iT,jT,y1⟩:=Q3a (OwnE.rd K6 HT.o) lo z1;obtain ⟨b2,o2,hB,_,y2⟩:=Q3a (OwnE.rd K6 HT.o) hY z2;rw [iT] at hB;injection hB with hB;injection hB with f1 f2;subst f1 f2;subst iT;rw [aF z1] at z3;injection z3 with z3;rw [aF z2] at z4;injection z4 with z4;rw [z3] at y1;rw [z4] at y2;obtain ⟨Hs,_⟩:=Z4k HQ.o;rw [aA,aA] at Hs;obtain ⟨wb,HG⟩:∃ wb,yK (ofL want=wb):=⟨_,rfl⟩;obtain ⟨eb,HA⟩:∃ eb,yK (ofL (V3 fmt t)=eb):=⟨_,rfl⟩;have jl:wb.size≤60000:=(by rw [←HG.o,Q6];omega);have jV:eb.size≤60000:=(by rw [←HA.o,Q6];omega);have jM:raw.data.toList.length=raw.size:=(aC raw).symm;rw [jM] at b2 b3;have jx:yK (wb++((ab++raw).extract at_ (al.length+cf lo)++eb)=ofL (want++(((al++raw.data.toList).take (al.length+cf lo)).drop at_)++V3 fmt t)):=by
                    show _=_;rw [←Hx.o,Z5f,←HG.o,←HA.o,H6,H6,aZ]
                  have jO:(ab++raw).size=ab.size+raw.size:=bD;have b1':at_≤ab.size+cf lo:=yY;rw [HG.o,HA.o];clear HG HA Hs z3 z4;generalize V3 fmt t=et at *;have b5:(at_:Int)≤(ab.size:Int)+(cf lo:Int):=yY;have b6:(ab.size:Int)+(cf lo:Int)≤((ab++raw).size:Int):=yY;have b7:(cf lo:Int)≤25000:=yY;have b8:(cf hY:Int)≤25000:=yY;have HU:yK (((al.length:Int)+(cf hY:Int))=((al.length+cf hY:Nat):Int)):=(by show _=_;omega);have b9:(al.length:Int)+(cf hY:Int)≤50000:=yY;go_upto_region 19 with fail
                  go_quiet (fail)
                  go_wp2_with fail
                  go_roundg (PP.length - (n+1))
                  case measure=>omega
                  case rel=>exact ⟨n+1,n+1,al.length+cf hY,_,ys++[(⟨t,At,ct⟩:Tv)],rfl,by rw [jx.o],by rw [HU.o],he,hP.o,HQ.o,by exact jt.o.but ((But.refl g w9).drewN _) hz,by exact jr.o.keepg fun _ _=>rfl,by exact HW.o.drewN _,by exact .inr ⟨zs,some ⟨bc,oc,none⟩,cc,rfl,V8w HT.o ((But.refl g w9).drewN _) hz,hzl,jy.o⟩,yQ⟩
                have S01:∀ (W:World),Below w8.heap.size w8 W→wpAny prog .any o2 q2 6 (bL 14 255) a_01 W:=by
                  intro W HB;simp only [a_01,a_0,a_,b0,Act.put,zZ,zY,zX];refine zqo 8 rfl ?_;refine J1 (X7o (.tmp 98) (.tmp 104) _ (.int .i64 fmt) (.slice Aq t.length cq) rfl yZ yZ (enters_of func22 yZ rfl _ _)) (CR.o _ W (iK.o.below HB yQ)) ?_;rintro e W2 ⟨rfl,hb⟩;refine ⟨.tuple #[.string (ofL (V3 fmt t)),.int .i64 0],rfl,?_⟩;refine zqM 9 96 (.tuple #[.string (ofL (V3 fmt t)),.int .i64 0]) rfl ?_;refine zqE 10 106 (.string (ofL (V3 fmt t))) rfl rfl ?_;refine zqE 11 107 (.int .i64 0) rfl rfl ?_;refine zqG 12 19 (.string (ofL (V3 fmt t))) rfl ?_;refine zqG 13 20 (.int .i64 0) rfl ?_;exact zqX (S012 W2 (HB.trans (hb.mono HB.size)))
                have S0:∀ (W:World),Below w8.heap.size w8 W→wpAny prog .any o2 q2 7 (bL 14 127) a_0 W:=by
                  intro W HB;simp only [a_0,a_,b0,Act.put,zZ,zY,zX];refine zqo 7 rfl ?_;refine J4 (v:=.slice Aq t.length cq) (L0 24 _ (.pointer (some ⟨bt,ot+n,none⟩)) _ rfl yZ (Q2f ((HB.cell (p:=⟨bt,ot+n,none⟩) ij).trans HF))) ?_;exact zqX (S01 W HB)
                have S1:∀ (W:World),Below w8.heap.size w8 W→wpAny prog .any o2 q2 7 (bL 14 253) a_1 W:=by
                  intro W HB;simp only [a_1,a_,b0,Act.put,zZ,zY,zX];refine zqo 1 rfl ?_;refine J4 (v:=.int .i64 fmt) (L0 3 _ (.pointer (some ⟨gd,0,none⟩)) _ rfl yZ (F3 ((HB.cell (p:=⟨gd,0,none⟩) Hp).trans d0))) ?_;exact zqX (S01 W HB)
                have S:∀ (W:World),Below w8.heap.size w8 W→wpAny prog .any o2 q2 14 (bL 14 0) b0 W:=by
                  intro W HB;simp only [b0,Act.put,zZ,zY,zX];refine zqF 0 97 (.pointer (some ⟨gd,0,none⟩)) rfl rfl (.pointer (some ⟨gd,0,none⟩)) ?_;refine zqM 2 99 (.slice (some ⟨bt,ot,none⟩) ln c8) rfl ?_;refine zqM 3 100 (.slice (some ⟨bt,ot,none⟩) ln c8) rfl ?_;refine zzA 4 (.int .i64 (ln:Nat)) (some 101) rfl (fun _=>V2m _ (some ⟨bt,ot,none⟩) ln c8 rfl yZ) ?_;refine zqB 5 102 (.int .i64 (n:Nat)) rfl rfl (.int .i64 (ln:Nat)) (.int .i64 1) ?_ (hr:=hJ);refine zqI 6 103 (.pointer (some ⟨bt,ot+n,none⟩)) rfl rfl (.slice (some ⟨bt,ot,none⟩) ln c8) (.int .i64 (n:Nat)) ?_ (hr:=hK);simp only [Act.put,zZ,zY,zX];refine zqt 1 7 rfl rfl ?_ ?_
                  · refine J4 (v:=.int .i64 fmt) (L0 3 _ (.pointer (some ⟨gd,0,none⟩)) _ rfl yZ (F3 ((HB.cell (p:=⟨gd,0,none⟩) Hp).trans d0))) ?_
                    exact zqX (S0 W HB)
                  · refine J4 (v:=.slice Aq t.length cq) (L0 24 _ (.pointer (some ⟨bt,ot+n,none⟩)) _ rfl yZ (Q2f ((HB.cell (p:=⟨bt,ot+n,none⟩) ij).trans HF))) ?_
                    exact zqX (S1 W HB)
                exact S _ (Q1 (aB w8.heap.size w8) 1)
              · obtain ⟨e1,e2⟩:=V8y k PP T i he Hd hpk
                rw [e1,e2] at hj;have hP:=zW (U3e PP k i n ht.o he hpk);have jZ:¬ ((PP[i].pt:Nat):Int)=((k:Nat):Int):=yY;clear s0 s1 s2 s3 hs Hz r2 r3 e1 e2 ht;generalize PP[i]=p at *;go_wp2_with fail
                go_roundg (PP.length - (i+1))
                case measure=>omega
                case rel=>exact ⟨i+1,n,at_,want,ys,rfl,rfl,rfl,he,hP.o,hj.o,ha.o,hd.o,hc.o,hO.o,yQ⟩
            · obtain rfl:i=PP.length:=yY
              have hS:=hj.o;rw [eF] at hS;obtain ⟨e1,e2⟩:=V7e (tg:=K7 k [] (T.drop PP.length)) hS;have HV:=zW (V7l PP k n ht.o);rw [←iy.o] at e1 e2;have jp:=zW (e1.trans hG.o.symm);have jo:yK (ab++raw=ofL (Y0 (ps.take (k+1)))):=by
                show _=_;rw [iy.o,←H6,Hx.o];rfl
              have x2:=ie.o _ (hC.o _ hc.o);obtain ⟨d0,d1⟩:=Q3j (HZ.o _ hc.o);clear hS hj ht e1 hO;go_wp2_with fail
              go_roundg (ps.length - (k+1))
              case measure=>omega
              case rel=>exact ⟨k+1,n,at_,want,ys,rfl,rfl,rfl,by rw [jo.o],hlt,HV.o,jp.o,e2,ha.o,hd.o,hc.o,yQ⟩
        have S012:∀ (W:World),Below wa.heap.size wa W→wpAny prog .any oo q0 10 (bL 18 255) a_012 W:=by
          intro W HB;simp only [a_012,a_01,a_0,a_,a0,Act.put,zZ,zY,zX];refine zqo 8 rfl ?_;refine J1 (X7o (.tmp 51) (.tmp 57) _ (.int .i64 fmt) (.string raw) rfl yZ yZ (enters_of func20 yZ rfl _ _)) (CD.o W) ?_;rintro e W2 ⟨va,vc,vb,vd,rfl,hcv,hb⟩;refine ⟨.tuple #[va,vc,vb,vd],rfl,?_⟩;refine zqM 9 49 (.tuple #[va,vc,vb,vd]) rfl ?_;refine zqE 10 59 (va) rfl rfl ?_;refine zqE 11 60 (vc) rfl rfl ?_;refine zqE 12 61 (vb) rfl rfl ?_;refine zqE 13 62 (vd) rfl rfl ?_;refine zqG 14 14 (va) rfl ?_;refine zqG 15 15 (vc) rfl ?_;refine zqG 16 16 (vb) rfl ?_;refine zqG 17 17 (vd) rfl ?_;exact zqX (S0123 W2 va vc vb vd (HB.trans (hb.mono HB.size)) (hcv.base (aP io HB.size)))
        have S01:∀ (W:World),Below wa.heap.size wa W→wpAny prog .any oo q0 11 (bL 18 127) a_01 W:=by
          intro W HB;simp only [a_01,a_0,a_,a0,Act.put,zZ,zY,zX];refine zqo 7 rfl ?_;refine J4 (v:=.string raw) (L0 9 _ (.pointer (some ⟨bq,oq+k * 3+2,none⟩)) _ rfl yZ (D8 ((HB.cell (p:=⟨bq,oq+k * 3+2,none⟩) ii).trans x2))) ?_;exact zqX (S012 W HB)
        have S12:∀ (W:World),Below wa.heap.size wa W→wpAny prog .any oo q0 11 (bL 18 253) a_12 W:=by
          intro W HB;simp only [a_12,a_1,a_,a0,Act.put,zZ,zY,zX];refine zqo 1 rfl ?_;refine J4 (v:=.int .i64 fmt) (L0 3 _ (.pointer (some ⟨gd,0,none⟩)) _ rfl yZ (F3 ((HB.cell (p:=⟨gd,0,none⟩) hU).trans d0))) ?_;exact zqX (S012 W HB)
        have S1:∀ (W:World),Below wa.heap.size wa W→wpAny prog .any oo q0 12 (bL 18 125) a_1 W:=by
          intro W HB;simp only [a_1,a_,a0,Act.put,zZ,zY,zX];refine zqt 1 7 rfl rfl ?_ ?_
          · refine J4 (v:=.int .i64 fmt) (L0 3 _ (.pointer (some ⟨gd,0,none⟩)) _ rfl yZ (F3 ((HB.cell (p:=⟨gd,0,none⟩) hU).trans d0))) ?_
            exact zqX (S01 W HB)
          · refine J4 (v:=.string raw) (L0 9 _ (.pointer (some ⟨bq,oq+k * 3+2,none⟩)) _ rfl yZ (D8 ((HB.cell (p:=⟨bq,oq+k * 3+2,none⟩) ii).trans x2))) ?_
            exact zqX (S12 W HB)
        have S0:∀ (W:World),Below wa.heap.size wa W→wpAny prog .any oo q0 14 (bL 18 23) a_0 W:=by
          intro W HB;simp only [a_0,a_,a0,Act.put,zZ,zY,zX];refine zqo 3 rfl ?_;refine J4 (v:=.slice (some ⟨bq,oq,none⟩) ps.length c1) (L0 39 _ (.pointer (some ⟨gd,1,none⟩)) _ rfl yZ (Q2g ((HB.cell (p:=⟨gd,1,none⟩) hU).trans d1))) ?_;refine zqI 5 55 (.pointer (some ⟨bq,oq+k * 3,none⟩)) rfl rfl (.slice (some ⟨bq,oq,none⟩) ps.length c1) (.int .i64 (k:Nat)) ?_;refine zqF 6 56 (.pointer (some ⟨bq,oq+k * 3+2,none⟩)) rfl rfl (.pointer (some ⟨bq,oq+k * 3,none⟩)) ?_;exact zqX (S01 W HB)
        have S:∀ (W:World),Below wa.heap.size wa W→wpAny prog .any oo q0 18 (bL 18 0) a0 W:=by
          intro W HB;simp only [a0,Act.put,zZ,zY,zX];refine zqF 0 50 (.pointer (some ⟨gd,0,none⟩)) rfl rfl (.pointer (some ⟨gd,0,none⟩)) ?_;refine zqF 2 52 (.pointer (some ⟨gd,1,none⟩)) rfl rfl (.pointer (some ⟨gd,0,none⟩)) ?_;refine zqM 4 54 (.int .i64 (k:Nat)) rfl ?_;simp only [Act.put,zZ,zY,zX];refine zqt 1 3 rfl rfl ?_ ?_
          · refine J4 (v:=.int .i64 fmt) (L0 3 _ (.pointer (some ⟨gd,0,none⟩)) _ rfl yZ (F3 ((HB.cell (p:=⟨gd,0,none⟩) hU).trans d0))) ?_
            exact zqX (S0 W HB)
          · refine J4 (v:=.slice (some ⟨bq,oq,none⟩) ps.length c1) (L0 39 _ (.pointer (some ⟨gd,1,none⟩)) _ rfl yZ (Q2g ((HB.cell (p:=⟨gd,1,none⟩) hU).trans d1))) ?_
            refine zqI 5 55 (.pointer (some ⟨bq,oq+k * 3,none⟩)) rfl rfl (.slice (some ⟨bq,oq,none⟩) ps.length c1) (.int .i64 (k:Nat)) ?_;refine zqF 6 56 (.pointer (some ⟨bq,oq+k * 3+2,none⟩)) rfl rfl (.pointer (some ⟨bq,oq+k * 3,none⟩)) ?_;exact zqX (S1 W HB)
        exact S _ (Q1 (aB wa.heap.size wa) 1)
      · obtain rfl:k=ps.length:=yY
        obtain rfl:n=PP.length:=U1g PP ps.length n ht.o jv.o;have Hr:=Hv.o;rw [aW] at Hr Hy;rw [bP yY] at Hr;rw [aW];rw [bP yY] at ha;have iQ:yK (ofL want++(ofL (Y0 ps)).extract at_ (Y0 ps).length=ofL (Y0 pe)):=by
          show _=_;have e:=Z5f (Y0 ps) ⟨#[]⟩ at_ (Y0 ps).length;have e2:ofL (Y0 ps)++(⟨#[]⟩:fY)=ofL (Y0 ps):=by
            rw [show (⟨#[]⟩:fY)=ofL [] from rfl,H6,aX]
          have e3:(Y0 ps++(⟨#[]⟩:fY).data.toList)=Y0 ps:=aX _;rw [e2,e3,aW] at e;rw [e,H6,Hr]
        have jN:(ofL (Y0 ps)).size=(Y0 ps).length:=Q6 _;have jl:(ofL want).size≤60000:=by
          rw [Q6];have:=congrArg List.length Hr;rw [aA] at this;omega
        have HH:=ha.o.len;have jR:ys.length=PP.length:=yY;obtain ⟨At,ct,jk⟩:=Q0 ha.o.own;rw [jR] at jk;subst jk;have iO:=zW ha.o.rd;have ia:=zW (iF.o.below (hC.o _ hc.o) yQ);have Hh:=zW (iH.o.below (hC.o _ hc.o));have hx:=zW (HR.o.trans ((hC.o _ hc.o).mono HR.o.size));have iR:=zW (HZ.o _ hc.o);clear ht Hv Hr HH ha hd hc;generalize hbtg:ofL (Y0 ps)=bt at *;go_upto_region 25 with fail
        rw [iQ.o];generalize ofL (Y0 pe)=be at *;clear iQ jN jl Hy;go_upto_region 28 with (go_at_call 23;refine (CT.o _ _ _ _ _ _ _ (by exact hx.o) (by exact ia.o) (by exact Hh.o) (by exact iO.o)).mono ?_;rintro e w6 ⟨A6,c6,rfl,jg,iW⟩;have iu:=zW jg;have Hb:=zW iW;clear jg iW)
        have hy:=(aB w6.heap.size w6).alloc yQ (.cells #[.int .i64 fmt,.slice A6 ps.length c6] 41);have Hw:=zW ((hy.block gd (by have:=Hb.o.size;omega)).trans ((Hb.o.block gd hU).trans iR.o));have ig:yK ((w6.alloc (.cells #[.int .i64 fmt,.slice A6 ps.length c6] 41)).heap[w6.heap.size]? =some (.cells #[.int .i64 fmt,.slice A6 ps.length c6] 41)):=aT w6 _;have iG:=zW (RdE.below (RdE.below ia.o Hb.o yQ) hy yQ);have iw:=zW (RdE.below iu.o hy yQ);have hM:=zW ((hx.o.trans (Hb.o.mono hx.o.size)).trans (hy.mono (aP hx.o.size Hb.o.size)));clear hy iR ia Hh hx iO Hb iu d0 d1 hU CT;generalize w6.alloc (.cells #[.int .i64 fmt,.slice A6 ps.length c6] 41)=w7 at Hw ig iG iw hM ⊢;generalize w6.heap.size=gx at ig ⊢;have il:gd < w7.heap.size:=J5 Hw.o;obtain ⟨d0,d1⟩:=Q3j Hw.o;obtain ⟨x0,x1⟩:=Q3j ig.o;have jX:(be.toList==be.toList)=true:=yW;have jY:(bt.toList==bt.toList)=true:=yW;go_wp2_with (first
          | (go_at_call 24;refine (CE.o _ _ _ (by exact iw.o)).mono ?_;rintro e w8 ⟨rfl,hb⟩;have HO:=zW hb;clear CE;obtain ⟨u0,u1⟩:=Q3j ((hb.block gd il).trans Hw.o);clear hb)
          | (go_at_call 24;refine (CB.o _ _ _ (by exact RdE.below iG.o HO.o yQ)).mono ?_;rintro e w9 ⟨rfl,hb⟩;have HP:=zW (hM.o.trans ((HO.o.trans (hb.mono HO.o.size)).mono hM.o.size));clear hb)
          | (go_at_call 7;refine (CK.o _ (by exact HP.o)).mono ?_;rintro e w20 ⟨rfl,hE⟩;have HN:=zW (HP.o.trans (hE.mono HP.o.size));clear hE))
        go_ret
        exact ⟨rfl,HN.o⟩
theorem walk_TopBytes (A : Option Addr) (n c : Nat) (l : List Int) (A' : Option Addr) (n' c' : Nat) (l' : List Int) (w : World) (hg : Got w) (h0 : n = l.length ∧ l.length ≤ maxLen ∧ RdE V7 1 w (.slice A n c) l ∧ ∀ x ∈ l, H7 x) (h1 : n' = l'.length ∧ l'.length ≤ maxLen ∧ RdE V7 1 w (.slice A' n' c') l' ∧ ∀ x ∈ l', H7 x) :
    Calls prog 4 #[.slice A n c,.slice A' n' c'] w fun e w'=>e=.returned (.bool true)∧Below w.heap.size w w':=by
  obtain ⟨rfl,he,hr,hb⟩:=h0;obtain ⟨rfl,hc,hd,ha⟩:=h1;obtain ⟨m,hm⟩:=hg;exact Y5m m l l' A A' c c' w hm hr hb hd ha
end Go.Proofs.YtfkojnofbpdjdaaGreatDoor
