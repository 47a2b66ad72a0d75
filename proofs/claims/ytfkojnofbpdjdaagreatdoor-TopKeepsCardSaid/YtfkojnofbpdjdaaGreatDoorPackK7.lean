/-
  Contracts and plain laws that this claim leans on, part 7.
-/
import Derived.Test.YtfkojnofbpdjdaaGreatDoorPackK6
import Derived.Test.YtfkojnofbpdjdaaGreatDoorPackK5
import Derived.Test.YtfkojnofbpdjdaaGreatDoorPackK4
import Derived.Test.YtfkojnofbpdjdaaGreatDoorPackK2
import Derived.Test.YtfkojnofbpdjdaaGreatDoorPackK3
import Derived.Test.YtfkojnofbpdjdaaGreatDoorRows
import Derived.ProofKit
import Derived.LaidMore
import Derived.Lay
import Derived.SizedLaws
import Derived.Shelf.Vars
import Derived.Stop.Joined
set_option linter.unusedVariables false
set_option linter.unusedSimpArgs false
set_option maxHeartbeats 16000000
set_option maxRecDepth 100000
namespace Go.Proofs.YtfkojnofbpdjdaaGreatDoor
open Go.RowKit
theorem Y2o {fn:Func} {t u v x:Tmp} (h:fn.results=#[.tmp t,.tmp u,.tmp v,.tmp x]) (tmps:Array Value) (P:Program) (w:World):
 (results fn tmps).run P w=.ok (.tuple #[tmps.getD t undef,tmps.getD u undef,tmps.getD v undef,tmps.getD x undef]) w:=by
 simp [results,h]
theorem Q9d {w:World} {b o:Nat} (u:Value) (k:Nat) (h:k≠b):(w.setCell ⟨b,o,none⟩ u).heap[k]? =w.heap[k]? :=
 Below.heap_setCell _ _ _ _ h
theorem Z5q (u:List Tk) (x:Tk):Q9 (Q9 u++[x])=Q9 (u++[x]):=by
 rw [Q2f,Q2f,Q1b _ (C9 u)]
theorem Z1k:∀ (u:List Tk),(∀ x∈u,x.t.size≤64)→X9 u≤64 * u.length
 | [],_=>by simp [X9]
 | x::u,h=>by
   have h1:=h x yW;have h2:=Z1k u fun y hy=>h y (by simp [hy]);have e:X9 (x::u)=x.t.size+X9 u:=(by simp [X9]);rw [e,List.length_cons];omega
theorem V9c (fmt:Int) (r:List UInt8) (x:Tk) (h:ElOk fmt r (some x)) (hk:x.k=1∨x.k=5):x.d=0:=by
 obtain ⟨h1,h2,_⟩:=Q9v fmt r _ h x rfl;rcases hk with hk | hk
 ·obtain ⟨c,rfl⟩:=h1 hk;rfl
 ·rcases h2 with h | ⟨_,_,h⟩ | ⟨h,_⟩ | ⟨h,_⟩<;>omega
def V8r (ts:Els) (w:World) (e:Ending) (w':World):Prop:=∃ v vc,e=.returned (.tuple #[v,vc,.int .i64 0,.int .i64 0])∧OwnT 31 w' w.heap.size v (Q9 (X1 ts))∧OwnE 3 V6 1 w' w.heap.size vc (X5j ts)∧Below w.heap.size w w'
theorem X7i (fmt:Int) (hf:E7 fmt) (raw:ByteArray) (ts:Els) (w:World) (h:RawOk fmt ts) (hr:raw.data.toList=Q2 ts) (hsz:raw.size≤65536):
 Calls Tryz.prog 20 #[.int .i64 fmt,.string raw] w (V8r ts w):=by
 obtain ⟨R,iI⟩:∃ R:Ending→World→Prop,yK (R=V8r ts w):=⟨_,rfl⟩;rw [←iI.o];have iP:raw.size=(Q2 ts).length:=(by rw [Lib.size_eq,hr]);have iJ:=zW iP;have HR:=zW hr;have H:=zW h;have js:=h.len;have iX:=zW hf;clear h iP hr hf;go_enter Tryz.func20,Tryz.ntmps20
 go_wp2_with fail
 go_loopg [8,9,10,11,12,13] ts.length (fun gk fv ov cv av dv lv wr=>∃ j,av=.int .i64 (D3 ts j:Nat)∧dv=.int .i64 (Q4l ts j:Nat)∧lv=.int .i64 ((opJ ts j).1:Nat)∧j≤ts.length∧yK (OwnT 31 wr w.heap.size fv (Q9 (X1 (ts.take j))))∧yK (OwnT 31 wr w.heap.size ov (opJ ts j).2.reverse)∧yK (OwnE 3 V6 1 wr w.heap.size cv (csE (ts.take j)))∧yK (Below w.heap.size w wr)∧ts.length - j≤gk)
 case atStart=>exact ⟨0,rfl,rfl,rfl,Nat.zero_le _,OwnE.nil,OwnE.nil,OwnE.nil,Below.refl _ _,yQ⟩
 case round=>
  obtain ⟨j,rfl,rfl,rfl,hj,HF,HO,HC,HB,hgk⟩:=hrel;by_cases hlt:j < ts.length
  ·have HA:=List.getElem_mem hlt;have HJ:=H.o.els _ HA;have hp:=X4p ts j hlt (X5n _ _ _ HJ);have jo:D3 ts j < raw.size:=(by rw [iJ.o];exact hp);have hd:=Q7p ts j hlt;rw [←HR.o] at hd;have iD:=Q1x raw (D3 ts j);rw [hd] at iD;have iL:=Q0o ts (j+1);have iu:yK (D3 ts (j+1)=D3 ts j+ts[j].1.length):=Q1m ts j hlt;have jy:D3 ts j+ts[j].1.length≤raw.size:=by
    have:=congrArg List.length hd;rw [List.length_drop,List.length_append,←Lib.size_eq] at this;omega
   have iQ:(raw.extract (D3 ts j) raw.size).size≤1000000:=(by rw [ByteArray.size_extract];omega);have jg:0 < ts[j].1.length:=X5n _ _ _ HJ;have jp:((D3 ts j:Nat):Int) < (raw.size:Int):=yY;have jz:(raw.size:Int)≤65536:=yY;have hY:yK (((D3 ts j:Nat):Int)+((ts[j].1.length:Nat):Int)=((D3 ts (j+1):Nat):Int)):=(by show _=_;rw [iu.o];omega);obtain ⟨An,cn,iA⟩:=Q0 HO.o;subst iA;obtain ⟨Af,cf,iy⟩:=Q0 HF.o;subst iy;obtain ⟨Ac,cc,ix⟩:=Q0 HC.o;subst ix;have hz:=HB.o.size;have He:=zW (fun W=>Y1j fmt iX.o (raw.extract (D3 ts j) raw.size) ts[j].1 (Q2 (ts.drop (j+1))) ts[j].2 W iD iQ HJ (X1w ts fmt j hlt H.o.cont H.o.els));have jw:(((ts[j].1.length:Nat):Int)==0)=false:=(by rw [beq_eq_false_iff_ne];omega);clear hp hd iD iQ jo;cases hx:ts[j].2 with
   | none=>
     obtain ⟨e1,e2,e3⟩:=Y3z ts j hlt hx;have ib:yK (opJ ts (j+1)=opJ ts j):=(by show _=_;unfold opJ;rw [e3]);rw [hx] at He;change yK (∀ W,Calls Tryz.prog 48 #[.int .i64 fmt,.string (raw.extract (D3 ts j) raw.size)] W (El7 0 ⟨#[]⟩ ts[j].1.length W)) at He
     rw [←e1] at HC ⊢;rw [←e2];rw [←e3] at HF ⊢;rw [←ib.o] at HO ⊢;have HY:(opJ ts (j+1)).2.reverse.length=(opJ ts (j+1)).2.length:=List.length_reverse;rw [HY] at HO ⊢;generalize hln:ts[j].1.length=ln at *;generalize D3 ts j=pj at *;clear HY;clear HJ HA hx iu e1 e2 e3 hln;have HK:yK (∀ w1,Below wr.heap.size wr w1→Below w.heap.size w (w1.alloc (.cells #[.int .i64 0,.string ⟨#[]⟩,.int .i64 0] 31))):=fun w1 h=>(HB.o.trans (h.mono hz)).alloc (Nat.le_trans hz h.size) _;have HM:yK (∀ w1,Below wr.heap.size wr w1→OwnT 31 (w1.alloc (.cells #[.int .i64 0,.string ⟨#[]⟩,.int .i64 0] 31)) w.heap.size (.slice Af (Q9 (X1 (ts.take (j+1)))).length cf) (Q9 (X1 (ts.take (j+1))))):=fun w1 h=>World.ownsRow.alloc (Q8 HF.o fun k hk=>h.block k (HF.o.lt k hk).2) _;have HN:yK (∀ w1,Below wr.heap.size wr w1→OwnT 31 (w1.alloc (.cells #[.int .i64 0,.string ⟨#[]⟩,.int .i64 0] 31)) w.heap.size (.slice An (opJ ts (j+1)).2.length cn) (opJ ts (j+1)).2.reverse):=fun w1 h=>World.ownsRow.alloc (Q8 HO.o fun k hk=>h.block k (HO.o.lt k hk).2) _;have HL:yK (∀ w1,Below wr.heap.size wr w1→OwnE 3 V6 1 (w1.alloc (.cells #[.int .i64 0,.string ⟨#[]⟩,.int .i64 0] 31)) w.heap.size (.slice Ac (csE (ts.take (j+1))).length cc) (csE (ts.take (j+1)))):=fun w1 h=>World.ownsRow.alloc (Q8 HC.o fun k hk=>h.block k (HC.o.lt k hk).2) _;go_upto_region 6 with (go_at_call 48;refine (He.o _).mono ?_;rintro e w1 ⟨rfl,hS⟩;have hb:=zW (HK.o _ hS);have hn:=zW (HM.o _ hS);have hh:=zW (HN.o _ hS);have ho:=zW (HL.o _ hS);have Ha:=hS.size;clear hS)
     have HX:yK ((w1.alloc (.cells #[.int .i64 0,.string ⟨#[]⟩,.int .i64 0] 31)).heap[w1.heap.size]? =some (.cells #[.int .i64 0,.string ⟨#[]⟩,.int .i64 0] 31)):=Array.getElem?_push_size;have hs:w1.heap.size < (w1.alloc (.cells #[.int .i64 0,.string ⟨#[]⟩,.int .i64 0] 31)).heap.size:=yW;have hV:yK (wr.heap.size≤w1.heap.size):=Ha;have Hg:yK ((Value.slice Af (Q9 (X1 (ts.take (j+1)))).length cf).ownBlock≠some w1.heap.size):=fun e=>by have:=(HF.o.lt _ e).2;have:=hV.o;omega
     have ht:yK ((Value.slice An (opJ ts (j+1)).2.length cn).ownBlock≠some w1.heap.size):=fun e=>by have:=(HO.o.lt _ e).2;have:=hV.o;omega
     have Hf:yK ((Value.slice Ac (csE (ts.take (j+1))).length cc).ownBlock≠some w1.heap.size):=fun e=>by have:=(HC.o.lt _ e).2;have:=hV.o;omega
     have HI:yK (w.heap.size≤w1.heap.size):=Nat.le_trans hz hV.o;clear HK HM HN HL HB HF HO HC He Ha hV;generalize w1.alloc (.cells #[.int .i64 0,.string ⟨#[]⟩,.int .i64 0] 31)=w2 at HX hb hn hh ho hs ⊢;obtain ⟨q,hq⟩:∃ q,yK (q=w1.heap.size):=⟨_,rfl⟩;rw [←hq.o] at HX hs Hg ht Hf HI ⊢;have x0:w2.cell? ⟨q,0,none⟩=some (.int .i64 0):=(bx3 HX.o).1;go_wp2_with fail
     rw [hY.o];go_roundg (ts.length - (j+1))
     case measure=>omega
     case rel=>exact ⟨j+1,rfl,rfl,rfl,hlt,hn.o,hh.o,ho.o,hb.o,yY⟩
   | some x=>
     obtain ⟨e1,e2⟩:=Y4a ts j hlt x hx;have HT:=X0i ts j hlt x hx;have ib:yK (opJ ts (j+1)=O9 [x] (opJ ts j).1 (opJ ts j).2):=(by show _=_;unfold opJ;rw [HT,Q3q]);have ie:ElOk fmt ts[j].1 (some x):=(by rw [←hx];exact HJ);have iM:=Z1q fmt ts[j].1 (some x) ie x rfl;have jr:=Q9w fmt ts[j].1 x ie;have HQ:=V9c fmt ts[j].1 x ie;have HV:=Q0s (X1 (ts.take j)) 0 [];have iw:=Q4h (ts.take j);have jj:=O8 (X1 (ts.take j));have jh:X9 (Q9 (X1 (ts.take j)))≤64 * (X1 (ts.take j)).length:=by
      rw [Q6b];exact Z1k _ (X6b fmt (ts.take j) fun e he=>H.o.els e (List.mem_of_mem_take he))
     rw [HT,List.length_append,List.length_singleton] at iL;have io:yK (NumOk (x::X1 (ts.drop (j+1))) (opJ ts j).1 (opJ ts j).2):=by
      have e1:X1 ts=X1 (ts.take j)++(x::X1 (ts.drop (j+1))):=by
       conv=>lhs;rw [←List.take_append_drop j ts,I6,List.drop_eq_getElem_cons hlt]
       congr 1;rw [show X1 (ts[j]::ts.drop (j+1))=X1 [ts[j]]++X1 (ts.drop (j+1)) from I6 [ts[j]] _];simp [X1,hx]
      have h1:=H.o.num;rw [e1] at h1;exact S9 _ _ _ _ h1
     have iZ:yK (∀ y∈(opJ ts j).2,y.t.size≤64):=fun y hy=>by
      rcases Q3r _ _ _ y hy with h | h
      ·simp at h
      ·exact X6b fmt (ts.take j) (fun e he=>H.o.els e (List.mem_of_mem_take he)) y h
     have Hj:yK (Q9 (Q9 (X1 (ts.take j))++[x])=Q9 (X1 (ts.take (j+1)))):=(by show _=_;rw [HT,Z5q]);have jv:(Q9 (X1 (ts.take (j+1)))).length≤500:=Nat.le_trans (O8 _) (by rw [HT,List.length_append,List.length_singleton];omega);have HZ:yK (csE (ts.take (j+1))=csE (ts.take j)++[(Q4l ts j:Int)]):=e1;have ia:yK (Q4l ts (j+1)=D3 ts (j+1)):=e2;have jk:(opJ ts j).2.length≤500∧(opJ ts j).1≤500:=(by simp at HV;unfold opJ;omega);rw [hx] at He;change yK (∀ W,Calls Tryz.prog 48 #[.int .i64 fmt,.string (raw.extract (D3 ts j) raw.size)] W (El7 x.k x.t ts[j].1.length W)) at He
     generalize Q9 (X1 (ts.take j))=f at *;generalize csE (ts.take j)=cs at *;have jf:cs.length≤500:=yY;have ju:f.length≤500:=yY;have jt:X9 f≤32000:=yY;have Hh:yK ((opJ ts (j+1)).1=(O9 [x] (opJ ts j).1 (opJ ts j).2).1∧(opJ ts (j+1)).2=(O9 [x] (opJ ts j).1 (opJ ts j).2).2):=(by show _∧_;rw [ib.o];exact ⟨rfl,rfl⟩);generalize (opJ ts j).1=cnt at *;generalize (opJ ts j).2=op at *;generalize Q4l ts j=ej at *;generalize hln:ts[j].1.length=ln at *;generalize D3 ts j=pj at *;obtain ⟨iz,jl⟩:=jk;have HY:op.reverse.length=op.length:=List.length_reverse;rw [HY] at HO ⊢;clear HJ HA hx iu e1 e2 HT ie HV iw jj jh iL hln ib HY;obtain ⟨k,t,d⟩:=x;simp only at iM jr He HQ;have iV:=zW HQ;clear HQ;have CCA:yK (∀ (d':Int) (va vb:Value) (W:World),RdT W va f→RdT W vb [⟨k,t,d'⟩]→Calls Tryz.prog 8 #[va,vb] W (F7 31 tkC 3 W (Q9 (f++[⟨k,t,d'⟩])))):=fun d' va vb W h1 h2=>Q6m f [⟨k,t,d'⟩] va vb W h1 h2 yV (by
      have e:X9 [(⟨k,t,d'⟩:Tk)]=t.size:=D5 _;rw [e];omega)
     have t0:(k==0)=false:=(by rw [beq_eq_false_iff_ne];omega);have HK:yK (∀ w1,Below wr.heap.size wr w1→Below w.heap.size w (w1.alloc (.cells #[.int .i64 k,.string t,.int .i64 0] 31))):=fun w1 h=>(HB.o.trans (h.mono hz)).alloc (Nat.le_trans hz h.size) _;have HM:yK (∀ w1,Below wr.heap.size wr w1→OwnT 31 (w1.alloc (.cells #[.int .i64 k,.string t,.int .i64 0] 31)) w.heap.size (.slice Af f.length cf) f):=fun w1 h=>World.ownsRow.alloc (Q8 HF.o fun k hk=>h.block k (HF.o.lt k hk).2) _;have HN:yK (∀ w1,Below wr.heap.size wr w1→OwnT 31 (w1.alloc (.cells #[.int .i64 k,.string t,.int .i64 0] 31)) w.heap.size (.slice An op.length cn) op.reverse):=fun w1 h=>World.ownsRow.alloc (Q8 HO.o fun k hk=>h.block k (HO.o.lt k hk).2) _;have HL:yK (∀ w1,Below wr.heap.size wr w1→OwnE 3 V6 1 (w1.alloc (.cells #[.int .i64 k,.string t,.int .i64 0] 31)) w.heap.size (.slice Ac cs.length cc) cs):=fun w1 h=>World.ownsRow.alloc (Q8 HC.o fun k hk=>h.block k (HC.o.lt k hk).2) _;go_upto_region 6 with (go_at_call 48;refine (He.o _).mono ?_;rintro e w1 ⟨rfl,hS⟩;have hb:=zW (HK.o _ hS);have hn:=zW (HM.o _ hS);have hh:=zW (HN.o _ hS);have ho:=zW (HL.o _ hS);have Ha:=hS.size;clear hS)
     have HX:yK ((w1.alloc (.cells #[.int .i64 k,.string t,.int .i64 0] 31)).heap[w1.heap.size]? =some (.cells #[.int .i64 k,.string t,.int .i64 0] 31)):=Array.getElem?_push_size;have hs:w1.heap.size < (w1.alloc (.cells #[.int .i64 k,.string t,.int .i64 0] 31)).heap.size:=yW;have hV:yK (wr.heap.size≤w1.heap.size):=Ha;have Hg:yK ((Value.slice Af f.length cf).ownBlock≠some w1.heap.size):=fun e=>by have:=(HF.o.lt _ e).2;have:=hV.o;omega
     have ht:yK ((Value.slice An op.length cn).ownBlock≠some w1.heap.size):=fun e=>by have:=(HO.o.lt _ e).2;have:=hV.o;omega
     have Hf:yK ((Value.slice Ac cs.length cc).ownBlock≠some w1.heap.size):=fun e=>by have:=(HC.o.lt _ e).2;have:=hV.o;omega
     have HI:yK (w.heap.size≤w1.heap.size):=Nat.le_trans hz hV.o;clear HK HM HN HL HB HF HO HC He Ha hV;generalize w1.alloc (.cells #[.int .i64 k,.string t,.int .i64 0] 31)=w2 at HX hb hn hh ho hs ⊢;obtain ⟨q,hq⟩:∃ q,yK (q=w1.heap.size):=⟨_,rfl⟩;rw [←hq.o] at HX hs Hg ht Hf HI ⊢;have x0:w2.cell? ⟨q,0,none⟩=some (.int .i64 k):=(bx3 HX.o).1;rcases iM with hk | hk
     ·have t2:(k==2)=false:=(by rw [beq_eq_false_iff_ne];omega);have t3:(k==3)=false:=(by rw [beq_eq_false_iff_ne];omega);have t4:(k==4)=false:=(by rw [beq_eq_false_iff_ne];omega);obtain ⟨g1,g2⟩:=Hh.o;rw [X4o _ _ _ hk] at g1 g2;have Ht:=zW g1;have Hu:=zW g2;have HQ:d=0:=iV.o hk;subst HQ;clear g1 g2 Hh hk x0;have x0:=(bx3 HX.o).1;have x1:=(bx3 HX.o).2.1;have x2:=(bx3 HX.o).2.2.1;have hZ:yK ((w2.alloc (.cells #[.int .i64 k,.string t,.int .i64 0] 31)).heap[q]? =some (.cells #[.int .i64 k,.string t,.int .i64 0] 31)):=(Below.heap_alloc w2 _ q hs).trans HX.o;have hU:=zW (World.ownsRow.alloc hn.o (.cells #[.int .i64 k,.string t,.int .i64 0] 31));have hC:=zW (World.ownsRow.alloc hh.o (.cells #[.int .i64 k,.string t,.int .i64 0] 31));have hF:=zW (World.ownsRow.alloc ho.o (.cells #[.int .i64 k,.string t,.int .i64 0] 31));have hw:=zW (hb.o.alloc hb.o.size (.cells #[.int .i64 k,.string t,.int .i64 0] 31));have hX:yK (RdT (w2.alloc (.cells #[.int .i64 k,.string t,.int .i64 0] 31)) (.slice (some ⟨w2.heap.size,0,none⟩) 1 1) [⟨k,t,0⟩]):=Z6 tkC 3 Q5 w2 _ rfl (⟨k,t,0⟩:Tk) _;have HG:=hb.o.size;have hm:q < (w2.alloc (.cells #[.int .i64 k,.string t,.int .i64 0] 31)).heap.size:=yV;have CC3:=zW (CCA.o (0) (.slice Af f.length cf) (.slice (some ⟨w2.heap.size,0,none⟩) 1 1) (w2.alloc (.cells #[.int .i64 k,.string t,.int .i64 0] 31)) (OwnE.rd Q5 hU.o) hX.o);rw [Hj.o] at CC3;clear hn hh ho hb hU hX Hj CCA HX hs;go_upto_region 22 with (go_at_call 8;refine (CC3.o).mono ?_;rintro e w5 ⟨v5,rfl,Hc,Hb⟩;have hB:=zW Hc;have ha:=zW Hb;clear Hc Hb)
      obtain ⟨Ag,cg,HE⟩:=Q0 hB.o;subst HE;have hu:=zW ((ha.o.block q hm).trans hZ.o);have hT:=zW (Q8 hC.o fun i hi=>ha.o.block i (hC.o.lt i hi).2);have Hd:=zW (Q8 hF.o fun i hi=>ha.o.block i (hF.o.lt i hi).2);have ht:yK (∀ i,(Value.slice Ag (Q9 (X1 (ts.take (j+1)))).length cg).ownBlock=some i→((.slice An op.length cn):Value).ownBlock≠some i):=fun i hi e=>by have h1:=(hB.o.lt i hi).1;have h2:=(hC.o.lt i e).2;omega
      have hE:=zW (hw.o.trans (ha.o.mono hw.o.size));have Hi:=zW (Y7 hB.o hw.o.size);have ic:q < w5.heap.size:=Nat.lt_of_lt_of_le hm ha.o.size;clear hZ hC hF hw ha hB CC3 hm x0 x1 x2 HG;have x0:=(bx3 hu.o).1;have x1:=(bx3 hu.o).2.1;have x2:=(bx3 hu.o).2.2.1;have u1:¬ (512:Int) < ((Q9 (X1 (ts.take (j+1)))).length:Int):=yY;have u2:¬ (1024:Int)≤(cs.length:Int):=yY;have Hq:=hE.o.size;go_upto_region 26 with fail
      have hH:yK (OwnT 31 w5 w.heap.size (.slice An op.length cn) (opJ ts (j+1)).2.reverse):=(by show OwnE _ _ _ _ _ _ _;rw [Hu.o];exact hT.o);clear ht hu hT x0 x1 x2 Hq;have HH:=hE.o.size;have hI:=zW (World.ownsRow.alloc hH.o (.cells #[.int .i64 (ej:Nat)] 3));have hG:=zW (World.ownsRow.alloc Hi.o (.cells #[.int .i64 (ej:Nat)] 3));have hD:=zW (World.ownsRow.alloc Hd.o (.cells #[.int .i64 (ej:Nat)] 3));have hR:=zW (hE.o.alloc HH (.cells #[.int .i64 (ej:Nat)] 3));have Hx:=zW (G5 hI.o hD.o yX);have Hw:=zW (G5 hG.o hD.o yX);go_wp2_with (at_builtin;go_loud (refine V1 rfl (.tmp 97) (.tmp 99) 22 3 rfl Tryz.underlying22 _ V6 1 8 P9 rfl yX J9 R9 w.heap.size _ cs rfl (by exact hD.o) _ [(ej:Int)] rfl (by exact Z6 V6 1 J9 _ _ yW (ej:Int) _) yV yX hR.o.size ?_);intro v9 w9 hg hc hl;have Hs:=zW hg;have Hr:=zW (hc w.heap.size w yQ hR.o);have Hy:=zW (Q8 hI.o fun i hi=>hl.block i (hI.o.lt i hi).2 (fun e=>Hx.o i hi e.symm));have Hv:=zW (Q8 hG.o fun i hi=>hl.block i (hG.o.lt i hi).2 (fun e=>Hw.o i hi e.symm));clear hg hc hl)
      rw [hY.o];go_roundg (ts.length - (j+1))
      case measure=>omega
      case rel=>exact ⟨j+1,rfl,by rw [ia.o],congrArg (fun (n:Nat)=>Value.int .i64 (n:Int)) Ht.o.symm,hlt,Hv.o,Hy.o,by show OwnE _ _ _ _ _ _ _;rw [HZ.o];exact Hs.o,Hr.o,yY⟩
     ·rcases hk with hk | hk | hk
      ·subst hk;have hN:=io.o;unfold NumOk at hN;rw [if_pos rfl] at hN;have hd':d=(cnt:Int)+1:=hN.1;subst hd';obtain ⟨g1,g2⟩:=Hh.o;have g1':(opJ ts (j+1)).1=cnt+1:=g1;have g2':(opJ ts (j+1)).2=⟨2,t,(cnt:Int)+1⟩::op:=g2;have Ht:=zW g1';have Hu:=zW g2';clear g1 g2 g1' g2' Hh hN x0;obtain ⟨x0,x1,x2,z0,z1,z2⟩:=bx3 HX.o;go_upto_region 21 with fail
       have hP:yK ((w2.setCell ⟨q,2,none⟩ (.int .i64 ((cnt:Int)+1))).heap[q]? =some (.cells #[.int .i64 2,.string t,.int .i64 ((cnt:Int)+1)] 31)):=by
        have:=R3 HX.o 2 (.int .i64 (((cnt:Int)+1)));show _=_;simpa using this
       have Ho:w.heap.size≤q:=(by have:=HI.o;omega);have hJ:=zW (hb.o.setCell (p:=⟨q,2,none⟩) Ho (.int .i64 ((cnt:Int)+1)));have hQ:q < (w2.setCell ⟨q,2,none⟩ (.int .i64 ((cnt:Int)+1))).heap.size:=(by simpa using hs);have hM:yK (∀ {e:TypeId} {m n:Nat} {v:Value} {xs:List Value},w2.ownsRow w.heap.size e m v n xs→v.ownBlock≠some q→(w2.setCell ⟨q,2,none⟩ (.int .i64 ((cnt:Int)+1))).ownsRow w.heap.size e m v n xs):=fun h HU=>Q8 h fun i hi=>Q9d _ i (fun e=>HU (by rw [hi,e]));have hL:=zW (hM.o hn.o Hg.o);have hO:=zW (hM.o hh.o ht.o);have hK:=zW (hM.o ho.o Hf.o);clear x0 x1 x2 z0 z1 z2 HX hb hn hh ho hs Ho hM Hg ht Hf;generalize w2.setCell ⟨q,2,none⟩ (.int .i64 ((cnt:Int)+1))=w3 at hP hJ hL hO hK hQ ⊢;obtain ⟨w2,Hp⟩:∃ w2,yK (w2=w3):=⟨_,rfl⟩;rw [←Hp.o] at hP hJ hL hO hK hQ ⊢;clear Hp;have HX:=hP;have hb:=hJ;have hn:=hL;have hh:=hO;have ho:=hK;have hs:=hQ;clear hP hJ hL hO hK hQ;have x0:=(bx3 HX.o).1;have x1:=(bx3 HX.o).2.1;have x2:=(bx3 HX.o).2.2.1;have hZ:yK ((w2.alloc (.cells #[.int .i64 2,.string t,.int .i64 ((cnt:Int)+1)] 31)).heap[q]? =some (.cells #[.int .i64 2,.string t,.int .i64 ((cnt:Int)+1)] 31)):=(Below.heap_alloc w2 _ q hs).trans HX.o;have hU:=zW (World.ownsRow.alloc hn.o (.cells #[.int .i64 2,.string t,.int .i64 ((cnt:Int)+1)] 31));have hC:=zW (World.ownsRow.alloc hh.o (.cells #[.int .i64 2,.string t,.int .i64 ((cnt:Int)+1)] 31));have hF:=zW (World.ownsRow.alloc ho.o (.cells #[.int .i64 2,.string t,.int .i64 ((cnt:Int)+1)] 31));have hw:=zW (hb.o.alloc hb.o.size (.cells #[.int .i64 2,.string t,.int .i64 ((cnt:Int)+1)] 31));have hX:yK (RdT (w2.alloc (.cells #[.int .i64 2,.string t,.int .i64 ((cnt:Int)+1)] 31)) (.slice (some ⟨w2.heap.size,0,none⟩) 1 1) [⟨2,t,((cnt:Int)+1)⟩]):=Z6 tkC 3 Q5 w2 _ rfl (⟨2,t,((cnt:Int)+1)⟩:Tk) _;have HG:=hb.o.size;have hm:q < (w2.alloc (.cells #[.int .i64 2,.string t,.int .i64 ((cnt:Int)+1)] 31)).heap.size:=yV;have CC3:=zW (CCA.o (((cnt:Int)+1)) (.slice Af f.length cf) (.slice (some ⟨w2.heap.size,0,none⟩) 1 1) (w2.alloc (.cells #[.int .i64 2,.string t,.int .i64 ((cnt:Int)+1)] 31)) (OwnE.rd Q5 hU.o) hX.o);rw [Hj.o] at CC3;clear hn hh ho hb hU hX Hj CCA HX hs;go_upto_region 22 with (go_at_call 8;refine (CC3.o).mono ?_;rintro e w5 ⟨v5,rfl,Hc,Hb⟩;have hB:=zW Hc;have ha:=zW Hb;clear Hc Hb)
       obtain ⟨Ag,cg,HE⟩:=Q0 hB.o;subst HE;have hu:=zW ((ha.o.block q hm).trans hZ.o);have hT:=zW (Q8 hC.o fun i hi=>ha.o.block i (hC.o.lt i hi).2);have Hd:=zW (Q8 hF.o fun i hi=>ha.o.block i (hF.o.lt i hi).2);have ht:yK (∀ i,(Value.slice Ag (Q9 (X1 (ts.take (j+1)))).length cg).ownBlock=some i→((.slice An op.length cn):Value).ownBlock≠some i):=fun i hi e=>by have h1:=(hB.o.lt i hi).1;have h2:=(hC.o.lt i e).2;omega
       have hE:=zW (hw.o.trans (ha.o.mono hw.o.size));have Hi:=zW (Y7 hB.o hw.o.size);have ic:q < w5.heap.size:=Nat.lt_of_lt_of_le hm ha.o.size;clear hZ hC hF hw ha hB CC3 hm x0 x1 x2 HG;have x0:=(bx3 hu.o).1;have x1:=(bx3 hu.o).2.1;have x2:=(bx3 hu.o).2.2.1;have u1:¬ (512:Int) < ((Q9 (X1 (ts.take (j+1)))).length:Int):=yY;have u2:¬ (1024:Int)≤(cs.length:Int):=yY;have Hq:=hE.o.size;have ja:yK ((w5.alloc (.cells #[.int .i64 2,.string t,.int .i64 ((cnt:Int)+1)] 31)).heap[q]? =some (.cells #[.int .i64 2,.string t,.int .i64 ((cnt:Int)+1)] 31)):=(Below.heap_alloc w5 _ q ic).trans hu.o;have ip:=zW (World.ownsRow.alloc hT.o (.cells #[.int .i64 2,.string t,.int .i64 ((cnt:Int)+1)] 31));have ii:=zW (World.ownsRow.alloc Hd.o (.cells #[.int .i64 2,.string t,.int .i64 ((cnt:Int)+1)] 31));have il:=zW (World.ownsRow.alloc Hi.o (.cells #[.int .i64 2,.string t,.int .i64 ((cnt:Int)+1)] 31));have ig:=zW (hE.o.alloc Hq (.cells #[.int .i64 2,.string t,.int .i64 ((cnt:Int)+1)] 31));have iq:=zW (G5 Hd.o hT.o yX);have HD:op.reverse.length=op.length:=List.length_reverse;rw [←HD] at ip ht iq ⊢;go_upto_region 26 with (at_builtin;go_loud (refine V1 rfl (.tmp 92) (.tmp 94) 24 31 rfl Tryz.underlying24 _ tkC 3 32 Z7 rfl yX Q5 K2 w.heap.size _ op.reverse rfl (by exact ip.o) _ [(⟨2,t,((cnt:Int)+1)⟩:Tk)] rfl (by exact Z6 tkC 3 Q5 w5 _ rfl (⟨2,t,((cnt:Int)+1)⟩:Tk) _) (by rw [HD];simp;omega) yX ig.o.size ?_);intro v7 w7 Hm Hk Hz;have iF:=zW Hm;have iE:=zW (Hk w.heap.size w yQ ig.o);have iY:=zW (Q8 il.o fun i hi=>Hz.block i (il.o.lt i hi).2 (fun e=>ht.o i hi e.symm));have iT:=zW (Q8 ii.o fun i hi=>Hz.block i (ii.o.lt i hi).2 (fun e=>iq.o i hi e.symm));clear Hm Hk Hz)
       have iG:yK (op.reverse++[⟨2,t,((cnt:Int)+1)⟩]=(opJ ts (j+1)).2.reverse):=(by show _=_;rw [Hu.o,List.reverse_cons]);have hH:yK (OwnT 31 w7 w.heap.size v7 (opJ ts (j+1)).2.reverse):=(by show OwnE _ _ _ _ _ _ _;rw [←iG.o];exact iF.o);clear ja ip ii il ig iq ht iF hu hT Hd Hi hE iG x0 x1 x2 Hq HD;have HH:=iE.o.size;have hI:=zW (World.ownsRow.alloc hH.o (.cells #[.int .i64 (ej:Nat)] 3));have hG:=zW (World.ownsRow.alloc iY.o (.cells #[.int .i64 (ej:Nat)] 3));have hD:=zW (World.ownsRow.alloc iT.o (.cells #[.int .i64 (ej:Nat)] 3));have hR:=zW (iE.o.alloc HH (.cells #[.int .i64 (ej:Nat)] 3));have Hx:=zW (G5 hI.o hD.o yX);have Hw:=zW (G5 hG.o hD.o yX);go_wp2_with (at_builtin;go_loud (refine V1 rfl (.tmp 97) (.tmp 99) 22 3 rfl Tryz.underlying22 _ V6 1 8 P9 rfl yX J9 R9 w.heap.size _ cs rfl (by exact hD.o) _ [(ej:Int)] rfl (by exact Z6 V6 1 J9 _ _ yW (ej:Int) _) yV yX hR.o.size ?_);intro v9 w9 hg hc hl;have Hs:=zW hg;have Hr:=zW (hc w.heap.size w yQ hR.o);have Hy:=zW (Q8 hI.o fun i hi=>hl.block i (hI.o.lt i hi).2 (fun e=>Hx.o i hi e.symm));have Hv:=zW (Q8 hG.o fun i hi=>hl.block i (hG.o.lt i hi).2 (fun e=>Hw.o i hi e.symm));clear hg hc hl)
       rw [hY.o];go_roundg (ts.length - (j+1))
       case measure=>omega
       case rel=>exact ⟨j+1,rfl,by rw [ia.o],congrArg (fun (n:Nat)=>Value.int .i64 (n:Int)) Ht.o.symm,hlt,Hv.o,Hy.o,by show OwnE _ _ _ _ _ _ _;rw [HZ.o];exact Hs.o,Hr.o,yY⟩
      ·subst hk;have hN:=io.o;unfold NumOk at hN;rw [if_neg (show ¬ (3:Int)=2 by decide),if_neg (show ¬ (3:Int)=4 by decide),if_pos rfl] at hN;obtain ⟨y,op',jm,hy,iR,_⟩:=hN;subst jm;have hyd':d=y.d:=iR;subst hyd';have hy':J8 y.t=t:=hy;obtain ⟨g1,g2⟩:=Hh.o;have g1':(opJ ts (j+1)).1=cnt:=g1;have g2':(opJ ts (j+1)).2=op':=g2;have Ht:=zW g1';have Hu:=zW g2';have iS:=iZ.o y yW;clear g1 g2 g1' g2' Hh iR hy x0;have HV:(y::op').length=op'.length+1:=rfl;have iO:(y::op').reverse=op'.reverse++[y]:=List.reverse_cons;have HW:op'.reverse.length=op'.length:=List.length_reverse;have iH:yK (∀ W,OwnT 31 W w.heap.size (.slice An (op'.length+1) cn) (op'.reverse++[y])→∃ b,An=some ⟨b,0,none⟩∧b < W.heap.size∧W.cell? ⟨b,op'.length * 3,none⟩=some (.int .i64 y.k)∧W.cell? ⟨b,op'.length * 3+1,none⟩=some (.string y.t)∧W.cell? ⟨b,op'.length * 3+2,none⟩=some (.int .i64 y.d)):=fun W hW=>by
        obtain ⟨g,cap,hv,_,iB⟩:=OwnT.unsnoc hW;obtain ⟨p1,p2,p3⟩:=OwnT.lastCells iB;injection hv with hA _ _;rw [HW] at p1 p2 p3;exact ⟨g,hA,World.block_lt_of_cell? _ _ p1,p1,p2,p3⟩
       rw [iO] at hh;rw [HV] at hh ht ⊢;obtain ⟨bo,jb,jc,p0,p1,p2⟩:=iH.o _ hh.o;subst jb;have im:=zW (fun (W:World) (hW:OwnT 31 W w.heap.size (.slice (some ⟨bo,0,none⟩) (op'.length+1) cn) (op'.reverse++[y]))=>Y5x Q5 (A:=some ⟨bo,0,none⟩) (n:=op'.length+1) (c:=cn) (l:=op'.reverse++[y]) hW op'.length yW);rw [show (op'.reverse++[y]).take op'.length=op'.reverse by rw [←HW,List.take_left]] at im;have CN:=zW (fun W=>B5 y.t W yY);change yK (∀ W,Calls Tryz.prog 36 #[.string y.t] W fun e w'=>e=.returned (.string (J8 y.t))∧W=w') at CN
       rw [hy'] at CN;have t5:(t.toList != t.toList)=false:=yW;have ji:¬ ((op'.length:Int) < 0):=yY;have jn:op'.length≤500:=(by rw [HV] at iz;omega);generalize hyk:y.k=yk at p0;generalize hyt:y.t=yt at p1 CN iS;generalize hydd:y.d=yd at *;have jq:((op'.length+1:Nat):Int) - 1=(op'.length:Int):=yY;obtain ⟨x0,x1,x2,z0,z1,z2⟩:=bx3 HX.o;have jx:((op'.length:Nat):Int) < ((op'.length+1:Nat):Int):=yY;clear iO hyk hyt iS hy' iH;go_upto_region 17 with fail
       go_quiet ((go_at_call 36;exact X7b (CN.o _)))
       have jd:op'.length+1≤cn:=(by have:=RdE.cap (OwnE.rd Q5 hh.o);simpa using this);have je:((op'.length:Nat):Int)≤(cn:Int):=yY;have iv:yK ((w2.drewN nq).heap[q]? =some (.cells #[.int .i64 3,.string t,.int .i64 0] 31)):=HX.o;have ih:yK (Below w.heap.size w (w2.drewN nq)):=Q1 hb.o nq;have ik:yK (OwnT 31 (w2.drewN nq) w.heap.size (.slice Af f.length cf) f):=hn.o;have it:yK (OwnT 31 (w2.drewN nq) w.heap.size (.slice (some ⟨bo,0,none⟩) (op'.length+1) cn) (op'.reverse++[y])):=hh.o;have ij:yK (OwnE 3 V6 1 (w2.drewN nq) w.heap.size (.slice Ac cs.length cc) cs):=ho.o;have iC:q < (w2.drewN nq).heap.size:=hs;have pq2:(w2.drewN nq).cell? ⟨bo,op'.length * 3+2,none⟩=some (.int .i64 yd):=p2;clear HX hb hn hh ho hs p0 p1 p2 x0 x1 x2 z0 z1 z2 jc jd;generalize w2.drewN nq=wq at *;obtain ⟨w2',Hp⟩:∃ w2',yK (w2'=wq):=⟨_,rfl⟩;rw [←Hp.o] at iv ih ik it ij iC pq2 ⊢;clear Hp;have HX:=iv;have hb:=ih;have hn:=ik;have hh:=it;have ho:=ij;have hs:=iC;clear iv ih ik it ij iC;obtain ⟨x0,x1,x2,z0,z1,z2⟩:=bx3 HX.o;go_upto_region 21 with fail
       have hP:yK ((w2'.setCell ⟨q,2,none⟩ (.int .i64 yd)).heap[q]? =some (.cells #[.int .i64 3,.string t,.int .i64 yd] 31)):=by
        have:=R3 HX.o 2 (.int .i64 (yd));show _=_;simpa using this
       have Ho:w.heap.size≤q:=(by have:=HI.o;omega);have hJ:=zW (hb.o.setCell (p:=⟨q,2,none⟩) Ho (.int .i64 yd));have hQ:q < (w2'.setCell ⟨q,2,none⟩ (.int .i64 yd)).heap.size:=(by simpa using hs);have hM:yK (∀ {e:TypeId} {m n:Nat} {v:Value} {xs:List Value},w2'.ownsRow w.heap.size e m v n xs→v.ownBlock≠some q→(w2'.setCell ⟨q,2,none⟩ (.int .i64 yd)).ownsRow w.heap.size e m v n xs):=fun h HU=>Q8 h fun i hi=>Q9d _ i (fun e=>HU (by rw [hi,e]));have hL:=zW (hM.o hn.o Hg.o);have hO:=zW (hM.o hh.o ht.o);have hK:=zW (hM.o ho.o Hf.o);clear x0 x1 x2 z0 z1 z2 HX hb hn hh ho hs Ho hM Hg ht Hf;generalize w2'.setCell ⟨q,2,none⟩ (.int .i64 yd)=w3 at hP hJ hL hO hK hQ ⊢;obtain ⟨w2,iK⟩:∃ w2,yK (w2=w3):=⟨_,rfl⟩;rw [←iK.o] at hP hJ hL hO hK hQ ⊢;clear iK;have HX:=hP;have hb:=hJ;have hn:=hL;have hh:=hO;have ho:=hK;have hs:=hQ;clear hP hJ hL hO hK hQ;have HP:yK (OwnT 31 w2 w.heap.size (.slice (some ⟨bo,0,none⟩) op'.length cn) op'.reverse):=im.o _ hh.o;clear hh im;have hh:=HP;clear HP;have x0:=(bx3 HX.o).1;have x1:=(bx3 HX.o).2.1;have x2:=(bx3 HX.o).2.2.1;have hZ:yK ((w2.alloc (.cells #[.int .i64 3,.string t,.int .i64 yd] 31)).heap[q]? =some (.cells #[.int .i64 3,.string t,.int .i64 yd] 31)):=(Below.heap_alloc w2 _ q hs).trans HX.o;have hU:=zW (World.ownsRow.alloc hn.o (.cells #[.int .i64 3,.string t,.int .i64 yd] 31));have hC:=zW (World.ownsRow.alloc hh.o (.cells #[.int .i64 3,.string t,.int .i64 yd] 31));have hF:=zW (World.ownsRow.alloc ho.o (.cells #[.int .i64 3,.string t,.int .i64 yd] 31));have hw:=zW (hb.o.alloc hb.o.size (.cells #[.int .i64 3,.string t,.int .i64 yd] 31));have hX:yK (RdT (w2.alloc (.cells #[.int .i64 3,.string t,.int .i64 yd] 31)) (.slice (some ⟨w2.heap.size,0,none⟩) 1 1) [⟨3,t,yd⟩]):=Z6 tkC 3 Q5 w2 _ rfl (⟨3,t,yd⟩:Tk) _;have HG:=hb.o.size;have hm:q < (w2.alloc (.cells #[.int .i64 3,.string t,.int .i64 yd] 31)).heap.size:=yV;have CC3:=zW (CCA.o (yd) (.slice Af f.length cf) (.slice (some ⟨w2.heap.size,0,none⟩) 1 1) (w2.alloc (.cells #[.int .i64 3,.string t,.int .i64 yd] 31)) (OwnE.rd Q5 hU.o) hX.o);rw [Hj.o] at CC3;clear hn hh ho hb hU hX Hj CCA HX hs;go_upto_region 22 with (go_at_call 8;refine (CC3.o).mono ?_;rintro e w5 ⟨v5,rfl,Hc,Hb⟩;have hB:=zW Hc;have ha:=zW Hb;clear Hc Hb)
       obtain ⟨Ag,cg,HE⟩:=Q0 hB.o;subst HE;have hu:=zW ((ha.o.block q hm).trans hZ.o);have hT:=zW (Q8 hC.o fun i hi=>ha.o.block i (hC.o.lt i hi).2);have Hd:=zW (Q8 hF.o fun i hi=>ha.o.block i (hF.o.lt i hi).2);have ht:yK (∀ i,(Value.slice Ag (Q9 (X1 (ts.take (j+1)))).length cg).ownBlock=some i→((.slice (some ⟨bo,0,none⟩) op'.length cn):Value).ownBlock≠some i):=fun i hi e=>by have h1:=(hB.o.lt i hi).1;have h2:=(hC.o.lt i e).2;omega
       have hE:=zW (hw.o.trans (ha.o.mono hw.o.size));have Hi:=zW (Y7 hB.o hw.o.size);have ic:q < w5.heap.size:=Nat.lt_of_lt_of_le hm ha.o.size;clear hZ hC hF hw ha hB CC3 hm x0 x1 x2 HG;have x0:=(bx3 hu.o).1;have x1:=(bx3 hu.o).2.1;have x2:=(bx3 hu.o).2.2.1;have u1:¬ (512:Int) < ((Q9 (X1 (ts.take (j+1)))).length:Int):=yY;have u2:¬ (1024:Int)≤(cs.length:Int):=yY;have Hq:=hE.o.size;go_upto_region 26 with fail
       have hH:yK (OwnT 31 w5 w.heap.size (.slice (some ⟨bo,0,none⟩) op'.length cn) (opJ ts (j+1)).2.reverse):=(by show OwnE _ _ _ _ _ _ _;rw [Hu.o];exact hT.o);clear ht hu hT x0 x1 x2 Hq;have HH:=hE.o.size;have hI:=zW (World.ownsRow.alloc hH.o (.cells #[.int .i64 (ej:Nat)] 3));have hG:=zW (World.ownsRow.alloc Hi.o (.cells #[.int .i64 (ej:Nat)] 3));have hD:=zW (World.ownsRow.alloc Hd.o (.cells #[.int .i64 (ej:Nat)] 3));have hR:=zW (hE.o.alloc HH (.cells #[.int .i64 (ej:Nat)] 3));have Hx:=zW (G5 hI.o hD.o yX);have Hw:=zW (G5 hG.o hD.o yX);go_wp2_with (at_builtin;go_loud (refine V1 rfl (.tmp 97) (.tmp 99) 22 3 rfl Tryz.underlying22 _ V6 1 8 P9 rfl yX J9 R9 w.heap.size _ cs rfl (by exact hD.o) _ [(ej:Int)] rfl (by exact Z6 V6 1 J9 _ _ yW (ej:Int) _) yV yX hR.o.size ?_);intro v9 w9 hg hc hl;have Hs:=zW hg;have Hr:=zW (hc w.heap.size w yQ hR.o);have Hy:=zW (Q8 hI.o fun i hi=>hl.block i (hI.o.lt i hi).2 (fun e=>Hx.o i hi e.symm));have Hv:=zW (Q8 hG.o fun i hi=>hl.block i (hG.o.lt i hi).2 (fun e=>Hw.o i hi e.symm));clear hg hc hl)
       rw [hY.o];go_roundg (ts.length - (j+1))
       case measure=>omega
       case rel=>exact ⟨j+1,rfl,by rw [ia.o],congrArg (fun (n:Nat)=>Value.int .i64 (n:Int)) Ht.o.symm,hlt,Hv.o,Hy.o,by show OwnE _ _ _ _ _ _ _;rw [HZ.o];exact Hs.o,Hr.o,yY⟩
      ·subst hk;have hN:=io.o;unfold NumOk at hN;rw [if_neg (show ¬ (4:Int)=2 by decide),if_pos rfl] at hN;have hd':d=(cnt:Int)+1:=hN.1;subst hd';obtain ⟨g1,g2⟩:=Hh.o;have g1':(opJ ts (j+1)).1=cnt+1:=g1;have g2':(opJ ts (j+1)).2=op:=g2;have Ht:=zW g1';have Hu:=zW g2';clear g1 g2 g1' g2' Hh hN x0;obtain ⟨x0,x1,x2,z0,z1,z2⟩:=bx3 HX.o;go_upto_region 21 with fail
       have hP:yK ((w2.setCell ⟨q,2,none⟩ (.int .i64 ((cnt:Int)+1))).heap[q]? =some (.cells #[.int .i64 4,.string t,.int .i64 ((cnt:Int)+1)] 31)):=by
        have:=R3 HX.o 2 (.int .i64 (((cnt:Int)+1)));show _=_;simpa using this
       have Ho:w.heap.size≤q:=(by have:=HI.o;omega);have hJ:=zW (hb.o.setCell (p:=⟨q,2,none⟩) Ho (.int .i64 ((cnt:Int)+1)));have hQ:q < (w2.setCell ⟨q,2,none⟩ (.int .i64 ((cnt:Int)+1))).heap.size:=(by simpa using hs);have hM:yK (∀ {e:TypeId} {m n:Nat} {v:Value} {xs:List Value},w2.ownsRow w.heap.size e m v n xs→v.ownBlock≠some q→(w2.setCell ⟨q,2,none⟩ (.int .i64 ((cnt:Int)+1))).ownsRow w.heap.size e m v n xs):=fun h HU=>Q8 h fun i hi=>Q9d _ i (fun e=>HU (by rw [hi,e]));have hL:=zW (hM.o hn.o Hg.o);have hO:=zW (hM.o hh.o ht.o);have hK:=zW (hM.o ho.o Hf.o);clear x0 x1 x2 z0 z1 z2 HX hb hn hh ho hs Ho hM Hg ht Hf;generalize w2.setCell ⟨q,2,none⟩ (.int .i64 ((cnt:Int)+1))=w3 at hP hJ hL hO hK hQ ⊢;obtain ⟨w2,Hp⟩:∃ w2,yK (w2=w3):=⟨_,rfl⟩;rw [←Hp.o] at hP hJ hL hO hK hQ ⊢;clear Hp;have HX:=hP;have hb:=hJ;have hn:=hL;have hh:=hO;have ho:=hK;have hs:=hQ;clear hP hJ hL hO hK hQ;have x0:=(bx3 HX.o).1;have x1:=(bx3 HX.o).2.1;have x2:=(bx3 HX.o).2.2.1;have hZ:yK ((w2.alloc (.cells #[.int .i64 4,.string t,.int .i64 ((cnt:Int)+1)] 31)).heap[q]? =some (.cells #[.int .i64 4,.string t,.int .i64 ((cnt:Int)+1)] 31)):=(Below.heap_alloc w2 _ q hs).trans HX.o;have hU:=zW (World.ownsRow.alloc hn.o (.cells #[.int .i64 4,.string t,.int .i64 ((cnt:Int)+1)] 31));have hC:=zW (World.ownsRow.alloc hh.o (.cells #[.int .i64 4,.string t,.int .i64 ((cnt:Int)+1)] 31));have hF:=zW (World.ownsRow.alloc ho.o (.cells #[.int .i64 4,.string t,.int .i64 ((cnt:Int)+1)] 31));have hw:=zW (hb.o.alloc hb.o.size (.cells #[.int .i64 4,.string t,.int .i64 ((cnt:Int)+1)] 31));have hX:yK (RdT (w2.alloc (.cells #[.int .i64 4,.string t,.int .i64 ((cnt:Int)+1)] 31)) (.slice (some ⟨w2.heap.size,0,none⟩) 1 1) [⟨4,t,((cnt:Int)+1)⟩]):=Z6 tkC 3 Q5 w2 _ rfl (⟨4,t,((cnt:Int)+1)⟩:Tk) _;have HG:=hb.o.size;have hm:q < (w2.alloc (.cells #[.int .i64 4,.string t,.int .i64 ((cnt:Int)+1)] 31)).heap.size:=yV;have CC3:=zW (CCA.o (((cnt:Int)+1)) (.slice Af f.length cf) (.slice (some ⟨w2.heap.size,0,none⟩) 1 1) (w2.alloc (.cells #[.int .i64 4,.string t,.int .i64 ((cnt:Int)+1)] 31)) (OwnE.rd Q5 hU.o) hX.o);rw [Hj.o] at CC3;clear hn hh ho hb hU hX Hj CCA HX hs;go_upto_region 22 with (go_at_call 8;refine (CC3.o).mono ?_;rintro e w5 ⟨v5,rfl,Hc,Hb⟩;have hB:=zW Hc;have ha:=zW Hb;clear Hc Hb)
       obtain ⟨Ag,cg,HE⟩:=Q0 hB.o;subst HE;have hu:=zW ((ha.o.block q hm).trans hZ.o);have hT:=zW (Q8 hC.o fun i hi=>ha.o.block i (hC.o.lt i hi).2);have Hd:=zW (Q8 hF.o fun i hi=>ha.o.block i (hF.o.lt i hi).2);have ht:yK (∀ i,(Value.slice Ag (Q9 (X1 (ts.take (j+1)))).length cg).ownBlock=some i→((.slice An op.length cn):Value).ownBlock≠some i):=fun i hi e=>by have h1:=(hB.o.lt i hi).1;have h2:=(hC.o.lt i e).2;omega
       have hE:=zW (hw.o.trans (ha.o.mono hw.o.size));have Hi:=zW (Y7 hB.o hw.o.size);have ic:q < w5.heap.size:=Nat.lt_of_lt_of_le hm ha.o.size;clear hZ hC hF hw ha hB CC3 hm x0 x1 x2 HG;have x0:=(bx3 hu.o).1;have x1:=(bx3 hu.o).2.1;have x2:=(bx3 hu.o).2.2.1;have u1:¬ (512:Int) < ((Q9 (X1 (ts.take (j+1)))).length:Int):=yY;have u2:¬ (1024:Int)≤(cs.length:Int):=yY;have Hq:=hE.o.size;go_upto_region 26 with fail
       have hH:yK (OwnT 31 w5 w.heap.size (.slice An op.length cn) (opJ ts (j+1)).2.reverse):=(by show OwnE _ _ _ _ _ _ _;rw [Hu.o];exact hT.o);clear ht hu hT x0 x1 x2 Hq;have HH:=hE.o.size;have hI:=zW (World.ownsRow.alloc hH.o (.cells #[.int .i64 (ej:Nat)] 3));have hG:=zW (World.ownsRow.alloc Hi.o (.cells #[.int .i64 (ej:Nat)] 3));have hD:=zW (World.ownsRow.alloc Hd.o (.cells #[.int .i64 (ej:Nat)] 3));have hR:=zW (hE.o.alloc HH (.cells #[.int .i64 (ej:Nat)] 3));have Hx:=zW (G5 hI.o hD.o yX);have Hw:=zW (G5 hG.o hD.o yX);go_wp2_with (at_builtin;go_loud (refine V1 rfl (.tmp 97) (.tmp 99) 22 3 rfl Tryz.underlying22 _ V6 1 8 P9 rfl yX J9 R9 w.heap.size _ cs rfl (by exact hD.o) _ [(ej:Int)] rfl (by exact Z6 V6 1 J9 _ _ yW (ej:Int) _) yV yX hR.o.size ?_);intro v9 w9 hg hc hl;have Hs:=zW hg;have Hr:=zW (hc w.heap.size w yQ hR.o);have Hy:=zW (Q8 hI.o fun i hi=>hl.block i (hI.o.lt i hi).2 (fun e=>Hx.o i hi e.symm));have Hv:=zW (Q8 hG.o fun i hi=>hl.block i (hG.o.lt i hi).2 (fun e=>Hw.o i hi e.symm));clear hg hc hl)
       rw [hY.o];go_roundg (ts.length - (j+1))
       case measure=>omega
       case rel=>exact ⟨j+1,rfl,by rw [ia.o],congrArg (fun (n:Nat)=>Value.int .i64 (n:Int)) Ht.o.symm,hlt,Hv.o,Hy.o,by show OwnE _ _ _ _ _ _ _;rw [HZ.o];exact Hs.o,Hr.o,yY⟩
  ·obtain rfl:j=ts.length:=yY;have he:D3 ts ts.length=raw.size:=(by rw [iJ.o];exact X0q ts);have iN:(opJ ts ts.length).2=[]:=by
    unfold opJ;rw [List.take_length];exact Y5w _ H.o.num
   rw [he];have iU:yK (X5j ts=csE ts++[((Q4l ts ts.length:Nat):Int)]):=(by show _=_;unfold X5j Q4l;rw [List.take_length]);rw [List.take_length] at HF HC;rw [iN] at HO;obtain ⟨An,cn,iA⟩:=Q0 HO.o;subst iA;obtain ⟨Af,cf,iy⟩:=Q0 HF.o;subst iy;obtain ⟨Ac,cc,ix⟩:=Q0 HC.o;subst ix;have iw:=Q4h ts;have hz:=HB.o.size;generalize Q4l ts ts.length=ej at *;generalize csE ts=cs at *;have jf:cs.length≤500:=yY;have hn:=zW (World.ownsRow.alloc HF.o (.cells #[.int .i64 ej] 3));have ho:=zW (World.ownsRow.alloc HC.o (.cells #[.int .i64 ej] 3));have hb:=zW (HB.o.alloc hz (.cells #[.int .i64 ej] 3));have ir:=zW (G5 HF.o HC.o yX);clear iN he iw;go_wp2_with (at_builtin;refine V1 rfl (.tmp 111) (.tmp 113) 22 3 rfl Tryz.underlying22 _ V6 1 8 P9 rfl yX J9 R9 w.heap.size _ cs rfl (by exact ho.o) _ [(ej:Int)] rfl (by exact Z6 V6 1 J9 _ _ yW (ej:Int) _) yV yX hb.o.size ?_;intro v8 w8 Hn Hl HS;have hD:=zW Hn;have hR:=zW (Hl w.heap.size w yQ hb.o);have iW:=zW (Q8 hn.o fun k hk=>HS.block k (hn.o.lt k hk).2 (fun e=>ir.o k hk e.symm));clear Hn Hl HS)
   refine bodyPost_ret (Y2o rfl _ _ _) rfl ?_;rw [iI.o];refine ⟨_,_,rfl,iW.o,?_,hR.o⟩;rw [iU.o];exact hD.o
structure BlD (B g:Nat) (data:ByteArray) (fr:Nat) (lv:Value) (ps:List Pt) (w:World):Prop where
 box:w.heap[g]? =some (.cells #[.string data,lv,.int .i64 fr] 269)
 own:OwnE 52 ptC 3 w B lv ps
 lt:B≤g
section
variable {B g:Nat} {data:ByteArray} {fr:Nat} {lv lv':Value} {ps ps':List Pt} {w w':World}
theorem BlD.gsz (h:BlD B g data fr lv ps w):g < w.heap.size:=(Array.getElem?_eq_some_iff.1 h.box).1
theorem BlD.nL (h:BlD B g data fr lv ps w):X3j g lv:=Y1 h.own h.box yX
theorem BlD.below (h:BlD B g data fr lv ps w) (hb:Below w.heap.size w w'):BlD B g data fr lv ps w':=
 ⟨(hb.block g h.gsz).trans h.box,Q8 h.own fun k hk=>hb.block k (h.own.lt k hk).2,h.lt⟩
theorem BlD.alloc (h:BlD B g data fr lv ps w) (o:Obj):BlD B g data fr lv ps (w.alloc o):=h.below ((Below.refl _ _).alloc yQ o)
theorem BlD.drew (h:BlD B g data fr lv ps w):BlD B g data fr lv ps w.drew:=⟨h.box,h.own,h.lt⟩
theorem BlD.gr (h:BlD B g data fr lv ps w) (hg:w.grownBy w' lv.ownBlock):w'.heap[g]? =some (.cells #[.string data,lv,.int .i64 fr] 269):=(hg.block g h.gsz (fun e=>h.nL g e.symm rfl)).trans h.box
theorem BlD.put (h:BlD B g data fr lv ps w) (ho:OwnE 52 ptC 3 w' B lv' ps') (hg:w.grownBy w' lv.ownBlock):
 BlD B g data fr lv' ps' (w'.setCell ⟨g,1,none⟩ lv'):=by
 have hs:=Mod.set w' g 1 lv';have ha:=h.gr hg;exact ⟨by rw [K1 ha];rfl,hs.own ho fun k hk e=>Y1 ho ha yX k hk e,h.lt⟩
theorem BlD.to (h:BlD B g data fr lv ps w) (b:Nat):BlD B g data b lv ps (w.setCell ⟨g,2,none⟩ (.int .i64 b)):=by
 have hs:=Mod.set w g 2 (.int .i64 b);exact ⟨by rw [K1 h.box];rfl,hs.own h.own fun k hk e=>h.nL k hk e,h.lt⟩
end
theorem X3a (a b:Nat) (key:ByteArray) {B g:Nat} {data:ByteArray} {fr:Nat} {lv:Value} {ps:List Pt} {w:World} (h:BlD B g data fr lv ps w)
 (h1:fr≤a) (h2:a≤b) (h3:b≤data.size) (hd:data.size≤100000000) (hl:ps.length≤1000000):
 Calls Tryz.prog 192 #[.pointer (some ⟨g,0,none⟩),.string key,.int .i64 a,.int .i64 b] w (fun e w'=>(∃ v,e=.returned v)∧∃ lv',BlD B g data b lv' (ps++[⟨false,⟨#[]⟩,data.extract fr a⟩,⟨true,key,data.extract a b⟩]) w'∧Below B w w'∧∀ k,k < w.heap.size→k≠g→lv.ownBlock≠some k→w'.heap[k]? =w.heap[k]?):=by
 have hg:=Nat.le_trans h.lt (Nat.le_of_lt h.gsz);obtain ⟨q0,q1,q2,_⟩:=bx3 h.box;obtain ⟨A0,c0,rfl⟩:=Q0 h.own;have H:=zW h;have HB:=zW (Below.refl B w);have HA:=zW (h.drew.alloc (.cells (([⟨false,⟨#[]⟩,data.extract fr a⟩,⟨true,key,data.extract a b⟩]:List Pt).flatMap ptC).toArray 52));have hz:B≤w.drew.heap.size:=hg;have h4:a≤data.size:=yY;have p2:(w.alloc (.cells #[.bool false,.string ⟨#[]⟩,.string (data.extract fr a),.bool true,.string key,.string (data.extract a b)] 52)).cell? ⟨g,1,none⟩=some (.slice A0 ps.length c0):=(bx3 HA.o.box).2.1;have hf:yK (w.heap.size < (w.drew.alloc (.cells (([⟨false,⟨#[]⟩,data.extract fr a⟩,⟨true,key,data.extract a b⟩]:List Pt).flatMap ptC).toArray 52)).heap.size):=(by show _ < _;simp);clear h;go_enter Tryz.func192,Tryz.ntmps192
 go_wp2_with fail
 go_region_law (first
  | (refine T0 rfl (.tmp 12) (.tmp 33) 39 52 rfl Tryz.underlying39 _ ptC 3 40 X0w rfl yX K0 X0v B (.slice A0 ps.length c0) ps (by simp [Act.eval]) (by exact HA.o.own) (.slice (some ⟨w.drew.heap.size, 0, none⟩) 2 2) [⟨false, ⟨#[]⟩, data.extract fr a⟩, ⟨true, key, data.extract a b⟩] (by simp [Act.eval]) (by exact X0z ptC 3 K0 _ _ rfl _ _ rfl _ _ rfl yX) yV yX yV ?_
     intro v7 w7 hown7 hbel7 hgr7 hat7;obtain ⟨A7,c7,hb⟩:=Q0 hown7;rw [show (ps++[(⟨false,⟨#[]⟩,data.extract fr a⟩:Pt),⟨true,key,data.extract a b⟩]).length=ps.length+2 by simp] at hb;subst hb;have HP:=zW (HA.o.put hown7 hgr7);have hc:=zW (hbel7 B w yQ ((Below.refl B w).drew.alloc hz _));have he:=zW (fun (k:Nat) (hk:k < w.heap.size) (hv:(Value.slice A0 ps.length c0).ownBlock≠some k)=>(hgr7.block k (Nat.lt_trans hk hf.o) (fun e=>hv e.symm)).trans (Below.heap_alloc w.drew _ k hk));have z0:=(bx3 (HA.o.gr hgr7)).2.1;have y0:=(bx3 (HA.o.gr hgr7)).2.2.2.2.1;clear hown7 hbel7))
 all_goals (
  have hh:=(bx3 HP.o.box).2.2.1;have hi:=(bx3 HP.o.box).2.2.2.2.2;have HG:=zW H.o.lt;go_wp2_with fail
  refine bodyPost_end (results_none rfl _ _ _) rfl ?_;refine ⟨⟨_,rfl⟩,_,HP.o.to b,(hc.o.setCell (p:=⟨g,1,none⟩) HG.o _).setCell (p:=⟨g,2,none⟩) HG.o _,fun k hk ha hv=>?_⟩;rw [Below.heap_setCell _ _ _ _ ha,Below.heap_setCell _ _ _ _ ha];exact he.o k hk hv)
theorem X5q {B g:Nat} {data:ByteArray} {fr:Nat} {lv:Value} {ps:List Pt} {w:World} (h:BlD B g data fr lv ps w) (h1:fr≤data.size) (hd:data.size≤100000000) (hl:ps.length≤1000000):
 Calls Tryz.prog 193 #[.pointer (some ⟨g,0,none⟩)] w (fun e w'=>∃ v,e=.returned v∧OwnE 52 ptC 3 w' B v (ps++[⟨false,⟨#[]⟩,data.extract fr data.size⟩])∧Below B w w'):=by
 have hc:=Nat.le_trans h.lt (Nat.le_of_lt h.gsz);obtain ⟨q0,q1,q2,_⟩:=bx3 h.box;obtain ⟨A0,c0,rfl⟩:=Q0 h.own;have H:=zW h;have HA:=zW (h.drew.alloc (.cells (([⟨false,⟨#[]⟩,data.extract fr data.size⟩]:List Pt).flatMap ptC).toArray 52));have hz:B≤w.drew.heap.size:=hc;have p2:(w.alloc (.cells #[.bool false,.string ⟨#[]⟩,.string (data.extract fr data.size)] 52)).cell? ⟨g,1,none⟩=some (.slice A0 ps.length c0):=(bx3 HA.o.box).2.1;clear h;go_enter Tryz.func193,Tryz.ntmps193
 go_wp2_with fail
 go_region_law (first
  | (refine T0 rfl (.tmp 6) (.tmp 17) 39 52 rfl Tryz.underlying39 _ ptC 3 40 X0w rfl yX K0 X0v B (.slice A0 ps.length c0) ps (by simp [Act.eval]) (by exact HA.o.own) (.slice (some ⟨w.drew.heap.size, 0, none⟩) 1 1) [⟨false, ⟨#[]⟩, data.extract fr data.size⟩] (by simp [Act.eval]) (by exact X0z ptC 3 K0 _ _ rfl _ _ rfl _ _ rfl yX) yV yX yV ?_
     intro v7 w7 hown7 hbel7 hgr7 hat7;obtain ⟨A7,c7,ha⟩:=Q0 hown7;rw [show (ps++[(⟨false,⟨#[]⟩,data.extract fr data.size⟩:Pt)]).length=ps.length+1 by simp] at ha;subst ha;have HP:=zW hown7;have hb:=zW (hbel7 B w yQ ((Below.refl B w).drew.alloc hz _));clear hown7 hbel7))
 all_goals (
  go_wp2_with fail
  first | go_ret | skip
  exact ⟨_,rfl,HP.o,hb.o⟩)
theorem Q6s (c d:UInt8) (h:c≠d):((c.toNat:Int) != (d.toNat:Int))=true:=by
 rw [bne_iff_ne];intro e;exact h (UInt8.toNat_inj.1 (by exact_mod_cast e))
theorem Z8w (data:ByteArray) (pre r s:List UInt8) (w:World) (hd:data.data.toList=pre++(r++s)) (hr:∀ c∈r,c≠34∧c≠44∧c≠10) (hs:FdEnd s) (hsz:data.size≤65536):
 Calls Tryz.prog 197 #[.string data,.int .i64 (pre.length:Nat)] w (Q8g (pre.length+r.length) false w):=by
 obtain ⟨R,hg⟩:∃ R:Ending→World→Prop,yK (R=Q8g (pre.length+r.length) false w):=⟨_,rfl⟩;rw [←hg.o];have hh:data.size=pre.length+(r.length+s.length):=(by rw [Lib.size_eq,hd];simp);have hi:=zW (L2 data pre (r++s) hd);have HR:=zW hr;have HS:=zW hs;have H0:yK (∀ h:pre.length < data.size,((data[pre.length].toNat:Int)==34)=false):=fun h=>by
  have h1:=hi.o 0 pre.length yV rfl h;rw [h1];refine X8 _ 34 ?_;cases r with
  | cons c r=>exact (hr c yW).1
  | nil=>
    rcases hs with rfl | ⟨c,q,rfl,hc⟩
    ·simp at hh;omega
    ·rcases hc with rfl | rfl
     ·show (44:UInt8)≠34;decide
     ·show (10:UInt8)≠34;decide
 have hu:pre.length+r.length≤data.size:=yY;clear hd hr hs;generalize hP:pre.length=P at *;have HP:=zW hP;clear hP;obtain ⟨wo,hf⟩:∃ wo,yK (wo=w):=⟨w,rfl⟩;have hj:(P < data.size∧(P:Int) < (data.size:Int))∨(¬ P < data.size∧¬ (P:Int) < (data.size:Int)):=yY;have HL:=zW hh;clear hh;rcases hj with ⟨hps,hpsi⟩ | ⟨hps,hpsi⟩
 ·have t0:=H0.o hps;go_enter Tryz.func197,Tryz.ntmps197
  go_wp2_with fail
  go_loopg [8] (r.length+1) (fun gk iv wr=>∃ k:Nat,iv=.int .i64 (P+k:Nat)∧k≤r.length∧yK (wr=wo)∧r.length+1 - k≤gk)
  case atStart=>exact ⟨0,rfl,Nat.zero_le _,hf.o.symm,yQ⟩
  case round=>
   obtain ⟨k,rfl,hk,HW,hgk⟩:=hrel;obtain ⟨p,ha⟩:∃ p,p=P+k:=⟨_,rfl⟩;rw [←ha];try clear hpsi
   try clear hps
   try clear t0
   by_cases hkl:k < r.length
   ·have hp:p < data.size:=yY;have hq:(p:Int) < (data.size:Int):=yY;have hc:data[p]=r[k]:=(hi.o k p yV ha hp).trans (List.getElem_append_left hkl);have hn:=HR.o r[k] (List.getElem_mem hkl);rw [←hc] at hn;have n34:((data[p].toNat:Int) != 34)=true:=Q6s _ 34 hn.1;have n44:((data[p].toNat:Int) != 44)=true:=Q6s _ 44 hn.2.1;have n10:((data[p].toNat:Int) != 10)=true:=Q6s _ 10 hn.2.2;have hm:yK ((p:Int)+1=((P+(k+1):Nat):Int)):=(by show _=_;omega);clear hc hn ha;go_wp2_with fail
    rw [hm.o];go_roundg (r.length - k)
    case measure=>omega
    case rel=>exact ⟨k+1,rfl,hkl,HW.o,yY⟩
   ·obtain rfl:k=r.length:=yY;have hb:yK ((p:Nat)=P+r.length):=ha;have he:=HL.o;rcases HS.o with rfl | ⟨c,q,rfl,hcc⟩
    ·have hl:(p:Int)=(data.size:Int):=(by simp at he;omega);have ht:¬ (p:Int) < (data.size:Int):=yY;have ho:((p:Int)==(data.size:Int))=true:=(by rw [beq_iff_eq];exact hl);clear ha hl he;go_wp2_with fail
     go_quiet (fail)
     go_wp2_with fail
     go_ret3
     rw [hg.o];refine ⟨?_,by rw [(HW.o.trans hf.o)];exact Q1 (Below.refl _ _) _⟩;show Ending.returned (.tuple #[.int .i64 (p:Nat),.bool false,.bool true])=_;rw [hb.o]
    ·simp at he;have hp:p < data.size:=yY;have hq:(p:Int) < (data.size:Int):=yY;have ho:((p:Int)==(data.size:Int))=false:=(by rw [beq_eq_false_iff_ne];omega);have hc:data[p]=c:=(hi.o r.length p yW ha hp).trans (by rw [List.getElem_append_right yQ];simp);rcases hcc with rfl | rfl
     ·have e44:((data[p].toNat:Int)==44)=true:=(by rw [hc];rfl);have n34:((data[p].toNat:Int) != 34)=true:=(by rw [hc];rfl);have n44:((data[p].toNat:Int) != 44)=false:=(by rw [hc];rfl);clear hc ha he;go_wp2_with fail
      go_quiet (fail)
      go_wp2_with fail
      go_ret3
      rw [hg.o];refine ⟨?_,by rw [(HW.o.trans hf.o)];exact Q1 (Below.refl _ _) _⟩;show Ending.returned (.tuple #[.int .i64 (p:Nat),.bool false,.bool true])=_;rw [hb.o]
     ·have e44:((data[p].toNat:Int)==44)=false:=(by rw [hc];rfl);have e10:((data[p].toNat:Int)==10)=true:=(by rw [hc];rfl);have n34:((data[p].toNat:Int) != 34)=true:=(by rw [hc];rfl);have n44:((data[p].toNat:Int) != 44)=true:=(by rw [hc];rfl);have n10:((data[p].toNat:Int) != 10)=false:=(by rw [hc];rfl);clear hc ha he;go_wp2_with fail
      go_quiet (fail)
      go_wp2_with fail
      go_ret3
      rw [hg.o];refine ⟨?_,by rw [(HW.o.trans hf.o)];exact Q1 (Below.refl _ _) _⟩;show Ending.returned (.tuple #[.int .i64 (p:Nat),.bool false,.bool true])=_;rw [hb.o]
 ·go_enter Tryz.func197,Tryz.ntmps197
  go_wp2_with fail
  go_loopg [8] (r.length+1) (fun gk iv wr=>∃ k:Nat,iv=.int .i64 (P+k:Nat)∧k≤r.length∧yK (wr=wo)∧r.length+1 - k≤gk)
  case atStart=>exact ⟨0,rfl,Nat.zero_le _,hf.o.symm,yQ⟩
  case round=>
   obtain ⟨k,rfl,hk,HW,hgk⟩:=hrel;obtain ⟨p,ha⟩:∃ p,p=P+k:=⟨_,rfl⟩;rw [←ha];try clear hpsi
   try clear hps
   try clear t0
   by_cases hkl:k < r.length
   ·have hp:p < data.size:=yY;have hq:(p:Int) < (data.size:Int):=yY;have hc:data[p]=r[k]:=(hi.o k p yV ha hp).trans (List.getElem_append_left hkl);have hn:=HR.o r[k] (List.getElem_mem hkl);rw [←hc] at hn;have n34:((data[p].toNat:Int) != 34)=true:=Q6s _ 34 hn.1;have n44:((data[p].toNat:Int) != 44)=true:=Q6s _ 44 hn.2.1;have n10:((data[p].toNat:Int) != 10)=true:=Q6s _ 10 hn.2.2;have hm:yK ((p:Int)+1=((P+(k+1):Nat):Int)):=(by show _=_;omega);clear hc hn ha;go_wp2_with fail
    rw [hm.o];go_roundg (r.length - k)
    case measure=>omega
    case rel=>exact ⟨k+1,rfl,hkl,HW.o,yY⟩
   ·obtain rfl:k=r.length:=yY;have hb:yK ((p:Nat)=P+r.length):=ha;have he:=HL.o;rcases HS.o with rfl | ⟨c,q,rfl,hcc⟩
    ·have hl:(p:Int)=(data.size:Int):=(by simp at he;omega);have ht:¬ (p:Int) < (data.size:Int):=yY;have ho:((p:Int)==(data.size:Int))=true:=(by rw [beq_iff_eq];exact hl);clear ha hl he;go_wp2_with fail
     go_quiet (fail)
     go_wp2_with fail
     go_ret3
     rw [hg.o];refine ⟨?_,by rw [(HW.o.trans hf.o)];exact Q1 (Below.refl _ _) _⟩;show Ending.returned (.tuple #[.int .i64 (p:Nat),.bool false,.bool true])=_;rw [hb.o]
    ·simp at he;have hp:p < data.size:=yY;have hq:(p:Int) < (data.size:Int):=yY;have ho:((p:Int)==(data.size:Int))=false:=(by rw [beq_eq_false_iff_ne];omega);have hc:data[p]=c:=(hi.o r.length p yW ha hp).trans (by rw [List.getElem_append_right yQ];simp);rcases hcc with rfl | rfl
     ·have e44:((data[p].toNat:Int)==44)=true:=(by rw [hc];rfl);have n34:((data[p].toNat:Int) != 34)=true:=(by rw [hc];rfl);have n44:((data[p].toNat:Int) != 44)=false:=(by rw [hc];rfl);clear hc ha he;go_wp2_with fail
      go_quiet (fail)
      go_wp2_with fail
      go_ret3
      rw [hg.o];refine ⟨?_,by rw [(HW.o.trans hf.o)];exact Q1 (Below.refl _ _) _⟩;show Ending.returned (.tuple #[.int .i64 (p:Nat),.bool false,.bool true])=_;rw [hb.o]
     ·have e44:((data[p].toNat:Int)==44)=false:=(by rw [hc];rfl);have e10:((data[p].toNat:Int)==10)=true:=(by rw [hc];rfl);have n34:((data[p].toNat:Int) != 34)=true:=(by rw [hc];rfl);have n44:((data[p].toNat:Int) != 44)=true:=(by rw [hc];rfl);have n10:((data[p].toNat:Int) != 10)=false:=(by rw [hc];rfl);clear hc ha he;go_wp2_with fail
      go_quiet (fail)
      go_wp2_with fail
      go_ret3
      rw [hg.o];refine ⟨?_,by rw [(HW.o.trans hf.o)];exact Q1 (Below.refl _ _) _⟩;show Ending.returned (.tuple #[.int .i64 (p:Nat),.bool false,.bool true])=_;rw [hb.o]
theorem V3q (data:ByteArray) (pre q s:List UInt8) (w:World) (hd:data.data.toList=pre++(34::(q++34::s))) (hq:L3 (q++34::s)=q.length) (hs:FdEnd s) (hsz:data.size≤65536):
 Calls Tryz.prog 197 #[.string data,.int .i64 (pre.length:Nat)] w (Q8g (pre.length+q.length+2) true w):=by
 obtain ⟨R,hl⟩:∃ R:Ending→World→Prop,yK (R=Q8g (pre.length+q.length+2) true w):=⟨_,rfl⟩;rw [←hl.o];have hh:data.size=pre.length+1+(q.length+1+s.length):=(by rw [Lib.size_eq,hd];simp;omega);have hA:=zW (fun h=>show ((data[pre.length].toNat:Int)==34)=true by rw [L2 data pre (34::(q++34::s)) hd 0 pre.length yW rfl h];rfl);have hi:=zW (L2 data (pre++[34]) (q++34::s) (by rw [hd];simp));have hy:(pre++[(34:UInt8)]).length=pre.length+1:=yW;rw [hy] at hi;clear hy;have hu:(q++34::s).length=q.length+1+s.length:=yV;have H0:yK (0+L3 ((q++34::s).drop 0)=q.length):=(by show _=_;rw [List.drop_zero,Nat.zero_add];exact hq);have hr:yK (∀ h:q.length < (q++34::s).length,s=[]→(q++34::s).length=q.length+1):=fun _ e=>by rw [hu,e];rfl
 have ho:yK (∀ c r,s=c::r→∀ h:q.length+1 < (q++34::s).length,(q++34::s)[q.length+1]=c):=fun c r e h=>by
  subst e;rw [List.getElem_append_right yY];simp
 have HS:=zW hs;clear hd hq hs;generalize hP:pre.length=P at *;clear hP;generalize hL:q++34::s=L at *;clear hL;generalize hE:q.length=E at *;clear hE;have hG:(P:Int) < (data.size:Int):=yY;have hF:P < data.size:=yY;have t0:=hA.o hF;have hj:=zW hh;have hg:=zW hu;clear hh hu;obtain ⟨wo,hm⟩:∃ wo,yK (wo=w):=⟨w,rfl⟩;go_enter Tryz.func197,Tryz.ntmps197
 go_wp2_with fail
 rw [show (P:Int)+1=((P+1+0:Nat):Int) by omega];go_loopg [8] (E+1) (fun gk iv wr=>∃ k:Nat,iv=.int .i64 (P+1+k:Nat)∧k≤E∧yK (k+L3 (L.drop k)=E)∧yK (wr=wo)∧E+1 - k≤gk)
 case atStart=>exact ⟨0,rfl,Nat.zero_le _,H0.o,hm.o.symm,yQ⟩
 case round=>
  obtain ⟨k,rfl,hk,HK,HW,hgk⟩:=hrel;clear H0;obtain ⟨p,he⟩:∃ p,p=P+1+k:=⟨_,rfl⟩;rw [←he];have hn:k < L.length:=(by have:=hg.o;omega);have hp:p < data.size:=(by have:=hg.o;have:=hj.o;omega);have hH:(p:Int) < (data.size:Int):=yY;have hc:=hi.o k p hn he hp;by_cases h34:L[k]=34
  ·have t1:((data[p].toNat:Int) != 34)=false:=(by rw [hc,h34];rfl);have t1b:((data[p].toNat:Int)==34)=true:=(by rw [hc,h34];rfl);rcases Z1t L k hn h34 with ⟨h1,h2,h3⟩ | ⟨h2,h3⟩
   ·have hw:p+1 < data.size:=(by have:=hg.o;have:=hj.o;omega);have hx:(p:Int)+1 < (data.size:Int):=yY;have ha:=hi.o (k+1) (p+1) h1 yY hw;have t2:((data[p+1].toNat:Int)==34)=true:=(by rw [ha,h2];rfl);have hf:yK (k+2+L3 (L.drop (k+2))=E):=(by show _=_;have:=HK.o;omega);have hv:k+2≤E:=(by have:=hf.o;omega);have ht:yK ((p:Int)+1+1=((P+1+(k+2):Nat):Int)):=(by show _=_;omega);clear hc ha he h34 h2;go_wp2_with fail
    rw [ht.o];go_roundg (E+1 - (k+2))
    case measure=>omega
    case rel=>exact ⟨k+2,rfl,hv,hf.o,HW.o,yQ⟩
   ·have hD:k=E:=(by have:=HK.o;omega);subst hD;have hb:yK ((p:Int)+1=((P+k+2:Nat):Int)):=(by show _=_;omega);rcases HS.o with rfl | ⟨c,r,rfl,hcc⟩
    ·have hz:p+1=data.size:=(by have:=hr.o hn rfl;have:=hj.o;simp at this;omega);have hJ:¬ (p:Int)+1 < (data.size:Int):=yY;have hC:¬ (data.size:Int)≤(p:Int):=yY;have hB:((p:Int)+1==(data.size:Int))=true:=(by rw [beq_iff_eq];omega);have hI:=zW hz;clear hc he h34 h2 hz;go_wp2_with fail
     go_quiet (fail)
     go_wp2_with fail
     go_ret3
     rw [hl.o];refine ⟨?_,by rw [(HW.o.trans hm.o)];exact Q1 (Below.refl _ _) _⟩;show Ending.returned (.tuple #[.int .i64 ((p:Int)+1),.bool true,.bool true])=_;rw [hb.o]
    ·have h1:k+1 < L.length:=(by have:=hg.o;simp at this;omega);have hw:p+1 < data.size:=(by have:=hg.o;have:=hj.o;omega);have hx:(p:Int)+1 < (data.size:Int):=yY;have ha:=(hi.o (k+1) (p+1) h1 yY hw).trans (ho.o c r rfl h1);have hC:¬ (data.size:Int)≤(p:Int):=yY;have hB:((p:Int)+1==(data.size:Int))=false:=(by rw [beq_eq_false_iff_ne];omega);rcases hcc with rfl | rfl
     ·have t2:((data[p+1].toNat:Int)==34)=false:=(by rw [ha];rfl);have e44:((data[p+1].toNat:Int)==44)=true:=(by rw [ha];rfl);clear hc ha he h34 h2;go_wp2_with fail
      go_quiet (fail)
      go_wp2_with fail
      go_ret3
      rw [hl.o];refine ⟨?_,by rw [(HW.o.trans hm.o)];exact Q1 (Below.refl _ _) _⟩;show Ending.returned (.tuple #[.int .i64 ((p:Int)+1),.bool true,.bool true])=_;rw [hb.o]
     ·have t2:((data[p+1].toNat:Int)==34)=false:=(by rw [ha];rfl);have e44:((data[p+1].toNat:Int)==44)=false:=(by rw [ha];rfl);have e10:((data[p+1].toNat:Int)==10)=true:=(by rw [ha];rfl);clear hc ha he h34 h2;go_wp2_with fail
      go_quiet (fail)
      go_wp2_with fail
      go_ret3
      rw [hl.o];refine ⟨?_,by rw [(HW.o.trans hm.o)];exact Q1 (Below.refl _ _) _⟩;show Ending.returned (.tuple #[.int .i64 ((p:Int)+1),.bool true,.bool true])=_;rw [hb.o]
  ·have t1:((data[p].toNat:Int) != 34)=true:=by
    rw [hc,bne_iff_ne];intro e;exact h34 (UInt8.toNat_inj.1 (by exact_mod_cast e))
   have t1b:((data[p].toNat:Int)==34)=false:=(by rw [hc];exact X8 _ 34 h34);have hf:yK (k+1+L3 (L.drop (k+1))=E):=(by show _=_;have:=HK.o;have:=X9n L k hn h34;omega);have hv:k+1≤E:=(by have:=hf.o;omega);have ht:yK ((p:Int)+1=((P+1+(k+1):Nat):Int)):=(by show _=_;omega);clear hc he h34;go_wp2_with fail
   rw [ht.o];go_roundg (E+1 - (k+1))
   case measure=>omega
   case rel=>exact ⟨k+1,rfl,hv,hf.o,HW.o,yQ⟩
theorem Z2b (data:ByteArray) (pre s:List UInt8) (f:Fd) (w:World) (hd:data.data.toList=pre++(f.raw++s)) (hf:X4w f) (hs:FdEnd s) (hsz:data.size≤65536):
 Calls Tryz.prog 197 #[.string data,.int .i64 (pre.length:Nat)] w (Q8g (pre.length+f.raw.length) f.quo w):=by
 obtain ⟨raw,quo⟩:=f;unfold X4w at hf;cases quo with
 | false=>exact Z8w data pre raw s w hd hf hs hsz
 | true=>
   obtain ⟨q,h1,h2⟩:=hf;simp only at h1 hd ⊢;subst h1;have:=V3q data pre q s w (by rw [hd];simp) (h2 s hs.no34) hs hsz;rw [show pre.length+(34::(q++[34])).length=pre.length+q.length+2 by simp;omega];exact this
theorem Z0e (data:ByteArray) (pre l:List UInt8) (w:World) (hd:data.data.toList=pre++l) (he:N8 l < l.length) (hsz:data.size≤65536):
 Calls Tryz.prog 194 #[.string data,.int .i64 (pre.length:Nat),.bool true] w fun e w'=>e=.returned (.int .i64 (pre.length+N8 l:Nat))∧w=w':=by
 obtain ⟨R,hi⟩:∃ R:Ending→World→Prop,yK (R=fun e w'=>e=.returned (.int .i64 (pre.length+N8 l:Nat))∧w=w'):=⟨_,rfl⟩;rw [←hi.o];have hh:data.size=pre.length+l.length:=(by rw [Lib.size_eq,hd,List.length_append]);have ho:=zW (fun (k p:Nat) (h:k < l.length) (hp:p=pre.length+k) (h2:p < data.size)=>show data[p]=l[k] by
  subst hp;have h3:(pre++l)[pre.length+k]'yV=l[k]:=(by rw [List.getElem_append_right yY];simp);have h4:data.data.toList[pre.length+k]'(by rw [hd];simp;omega)=l[k]:=(by simp only [hd];exact h3);exact h4)
 obtain ⟨wo,hj⟩:∃ wo,yK (wo=w):=⟨w,rfl⟩;have H0:yK (0+N8 (l.drop 0)=N8 l):=(by show _=_;rw [List.drop_zero,Nat.zero_add]);generalize N8 l=E at *;have hl:pre.length+l.length≤data.size:=yY;clear hd hh;go_enter Tryz.func194,Tryz.ntmps194
 go_wp2_with fail
 go_loopg [1] (E+1) (fun gk iv wr=>∃ k:Nat,iv=.int .i64 (pre.length+k:Nat)∧k≤E∧yK (k+N8 (l.drop k)=E)∧yK (wr=wo)∧E+1 - k≤gk)
 case atStart=>exact ⟨0,rfl,Nat.zero_le _,H0.o,hj.o.symm,yQ⟩
 case round=>
  obtain ⟨k,rfl,hk,HK,HW,hgk⟩:=hrel;clear H0;have hc:k < l.length:=yY;obtain ⟨p,hf⟩:∃ p,p=pre.length+k:=⟨_,rfl⟩;rw [←hf];have hp:p < data.size:=yY;have ha:=ho.o k p hc hf hp;have HP:=zW hf;clear hf;have hs:p+1≤data.size:=yY;by_cases h10:l[k]=10
  ·have hz:=Z1u l k hc h10;have hq:k=E:=(by have:=HK.o;omega);have t1:((data[p].toNat:Int) != 10)=false:=(by rw [ha,h10];rfl);have t2:((data[p].toNat:Int)==10)=true:=(by rw [ha,h10];rfl);subst hq;have hr:min (p:Int) (data.size:Int)=(p:Int):=yY;have hm:(p:Int) < (data.size:Int):=yY;have hn:(p:Int)≤(data.size:Int):=yY;clear ha h10 hz HK;go_wp2_with fail
   first | go_ret | skip
   rw [hi.o];refine ⟨?_,(HW.o.trans hj.o).symm⟩;show Ending.returned (.int .i64 (p:Int))=_;rw [HP.o]
  ·have t1:((data[p].toNat:Int) != 10)=true:=by
    rw [ha,bne_iff_ne];intro e;exact h10 (UInt8.toNat_inj.1 (by exact_mod_cast e))
   have t2:((data[p].toNat:Int)==10)=false:=by
    rw [ha,beq_eq_false_iff_ne];intro e;exact h10 (UInt8.toNat_inj.1 (by exact_mod_cast e))
   by_cases h92:l[k]=92
   ·obtain ⟨s1,s2⟩:=Z1v l k hc h92 (by rw [HK.o];exact he);have t3:((data[p].toNat:Int)==92)=true:=(by rw [ha,h92];rfl);have hb:yK (k+2+N8 (l.drop (k+2))=E):=s2.trans HK.o;have hg:k+2≤E:=(by have:=hb.o;omega);have HS:yK ((p:Int)+1+1=((pre.length+(k+2):Nat):Int)):=(by show _=_;have:=HP.o;omega);clear ha h10 h92 s2;go_wp2_with fail
    rw [HS.o];go_roundg (E+1 - (k+2))
    case measure=>omega
    case rel=>exact ⟨k+2,rfl,hg,hb.o,HW.o,yQ⟩
   ·have t3:((data[p].toNat:Int)==92)=false:=by
     rw [ha,beq_eq_false_iff_ne];intro e;exact h92 (UInt8.toNat_inj.1 (by exact_mod_cast e))
    have hb:yK (k+1+N8 (l.drop (k+1))=E):=(X9o l k hc h10 h92).trans HK.o;have hg:k+1≤E:=(by have:=hb.o;omega);have HS:yK ((p:Int)+1=((pre.length+(k+1):Nat):Int)):=(by show _=_;have:=HP.o;omega);clear ha h10 h92;go_wp2_with fail
    rw [HS.o];go_roundg (E+1 - (k+1))
    case measure=>omega
    case rel=>exact ⟨k+1,rfl,hg,hb.o,HW.o,yQ⟩
theorem Z0d (data:ByteArray) (pre l r:List UInt8) (w:World) (hd:data.data.toList=pre++(l++10::r)) (hl:∀ c∈l,c≠10) (hsz:data.size≤65536):
 Calls Tryz.prog 194 #[.string data,.int .i64 (pre.length:Nat),.bool false] w fun e w'=>e=.returned (.int .i64 (pre.length+l.length:Nat))∧w=w':=by
 obtain ⟨R,hb⟩:∃ R:Ending→World→Prop,yK (R=fun e w'=>e=.returned (.int .i64 (pre.length+l.length:Nat))∧w=w'):=⟨_,rfl⟩;rw [←hb.o];have ho:pre.length+l.length+1≤data.size:=(by rw [Lib.size_eq,hd];simp;omega);have hi:=zW (L2 data pre (l++10::r) hd);have HL:=zW hl;have hg:(l++10::r).length=l.length+1+r.length:=yV;have hj:=zW hg;clear hd hl hg;obtain ⟨wo,he⟩:∃ wo,yK (wo=w):=⟨w,rfl⟩;go_enter Tryz.func194,Tryz.ntmps194
 go_wp2_with fail
 go_loopg [1] (l.length+1) (fun gk iv wr=>∃ k:Nat,iv=.int .i64 (pre.length+k:Nat)∧k≤l.length∧yK (wr=wo)∧l.length+1 - k≤gk)
 case atStart=>exact ⟨0,rfl,Nat.zero_le _,he.o.symm,yQ⟩
 case round=>
  obtain ⟨k,rfl,hk,HW,hgk⟩:=hrel;obtain ⟨p,ha⟩:∃ p,p=pre.length+k:=⟨_,rfl⟩;rw [←ha];have hp:p < data.size:=yY;have hr:(p:Int) < (data.size:Int):=yY;have hc:=hi.o k p (by rw [hj.o];omega) ha hp;by_cases hkl:k < l.length
  ·rw [List.getElem_append_left hkl] at hc;have hn:=HL.o l[k] (List.getElem_mem hkl);rw [←hc] at hn;have n10:((data[p].toNat:Int) != 10)=true:=Q6s _ 10 hn;have hm:yK ((p:Int)+1=((pre.length+(k+1):Nat):Int)):=(by show _=_;omega);clear hc hn ha;go_wp2_with fail
   rw [hm.o];go_roundg (l.length - k)
   case measure=>omega
   case rel=>exact ⟨k+1,rfl,hkl,HW.o,yY⟩
  ·obtain rfl:k=l.length:=yY;have hf:data[p]=10:=hc.trans (by rw [List.getElem_append_right yQ];simp);have n10:((data[p].toNat:Int) != 10)=false:=(by rw [hf];rfl);have HP:=zW ha;have hh:(p:Int)≤(data.size:Int):=yY;have hq:min (p:Int) (data.size:Int)=(p:Int):=yY;clear hc hf ha;go_wp2_with fail
   first | go_ret | skip
   rw [hb.o];refine ⟨?_,(HW.o.trans he.o).symm⟩;show Ending.returned (.int .i64 (p:Int))=_;rw [HP.o]
theorem Y0j (c:UInt8) (w:World):Calls Tryz.prog 195 #[.int .u8 (c.toNat:Int)] w fun e w'=>e=.returned (.bool (Q0p c))∧w=w':=by
 obtain ⟨b,hb⟩:∃ b,yK (Q0p c=b):=⟨_,rfl⟩;have hc:=c.toNat_lt;rw [hb.o];have ha:b=decide ((97≤c.toNat∧c.toNat≤122)∨(48≤c.toNat∧c.toNat≤57)∨c.toNat=46∨c.toNat=95∨c.toNat=45):=hb.o.symm;clear hb;generalize c.toNat=n at *;rcases (show (97≤n∧n≤122)∨(122 < n)∨(n < 97∧57 < n∧n≠95)∨n=95∨(48≤n∧n≤57)∨n=46∨n=45∨(n < 48∧n≠46∧n≠45) by omega) with h | h | h | h | h | h | h | h
 ·obtain rfl:b=true:=by rw [ha];first | (exact decide_eq_true yY) | (exact decide_eq_false yY)
  have a1:(97:Int)≤(n:Int):=yY;have a2:(n:Int)≤122:=yY;clear ha h;go_enter Tryz.func195,Tryz.ntmps195
  go_wp2_with fail
  first | go_ret | skip
  exact ⟨rfl,rfl⟩
 ·obtain rfl:b=false:=by rw [ha];first | (exact decide_eq_true yY) | (exact decide_eq_false yY)
  have a1:(97:Int)≤(n:Int):=yY;have a2:¬ (n:Int)≤122:=yY;have a3:(48:Int)≤(n:Int):=yY;have a4:¬ (n:Int)≤57:=yY;have a5:((n:Int)==46)=false:=(by rw [beq_eq_false_iff_ne];omega);have a6:((n:Int)==95)=false:=(by rw [beq_eq_false_iff_ne];omega);have a7:((n:Int)==45)=false:=(by rw [beq_eq_false_iff_ne];omega);clear ha h;go_enter Tryz.func195,Tryz.ntmps195
  go_wp2_with fail
  first | go_ret | skip
  exact ⟨rfl,rfl⟩
 ·obtain rfl:b=false:=by rw [ha];first | (exact decide_eq_true yY) | (exact decide_eq_false yY)
  have a1:¬ (97:Int)≤(n:Int):=yY;have a3:(48:Int)≤(n:Int):=yY;have a4:¬ (n:Int)≤57:=yY;have a5:((n:Int)==46)=false:=(by rw [beq_eq_false_iff_ne];omega);have a6:((n:Int)==95)=false:=(by rw [beq_eq_false_iff_ne];omega);have a7:((n:Int)==45)=false:=(by rw [beq_eq_false_iff_ne];omega);clear ha h;go_enter Tryz.func195,Tryz.ntmps195
  go_wp2_with fail
  first | go_ret | skip
  exact ⟨rfl,rfl⟩
 ·obtain rfl:b=true:=by rw [ha];first | (exact decide_eq_true yY) | (exact decide_eq_false yY)
  subst h;clear ha;go_enter Tryz.func195,Tryz.ntmps195
  go_wp2_with fail
  first | go_ret | skip
  exact ⟨rfl,rfl⟩
 ·obtain rfl:b=true:=by rw [ha];first | (exact decide_eq_true yY) | (exact decide_eq_false yY)
  have a1:¬ (97:Int)≤(n:Int):=yY;have a3:(48:Int)≤(n:Int):=yY;have a4:(n:Int)≤57:=yY;clear ha h;go_enter Tryz.func195,Tryz.ntmps195
  go_wp2_with fail
  first | go_ret | skip
  exact ⟨rfl,rfl⟩
 ·obtain rfl:b=true:=by rw [ha];first | (exact decide_eq_true yY) | (exact decide_eq_false yY)
  subst h;clear ha;go_enter Tryz.func195,Tryz.ntmps195
  go_wp2_with fail
  first | go_ret | skip
  exact ⟨rfl,rfl⟩
 ·obtain rfl:b=true:=by rw [ha];first | (exact decide_eq_true yY) | (exact decide_eq_false yY)
  subst h;clear ha;go_enter Tryz.func195,Tryz.ntmps195
  go_wp2_with fail
  first | go_ret | skip
  exact ⟨rfl,rfl⟩
 ·obtain rfl:b=false:=by rw [ha];first | (exact decide_eq_true yY) | (exact decide_eq_false yY)
  have a1:¬ (97:Int)≤(n:Int):=yY;have a3:¬ (48:Int)≤(n:Int):=yY;have a5:((n:Int)==46)=false:=(by rw [beq_eq_false_iff_ne];omega);have a6:((n:Int)==95)=false:=(by rw [beq_eq_false_iff_ne];omega);have a7:((n:Int)==45)=false:=(by rw [beq_eq_false_iff_ne];omega);clear ha h;go_enter Tryz.func195,Tryz.ntmps195
  go_wp2_with fail
  first | go_ret | skip
  exact ⟨rfl,rfl⟩
theorem V5m (ps:List Pt) (A:Option Addr) (c:Nat) (key:ByteArray) (w:World) (h:RdE ptC 3 w (.slice A ps.length c) ps) (hl:ps.length≤100000) (hn:∀ p∈ps,p.un=true→(p.key.toList==key.toList)=false):
 Calls Tryz.prog 196 #[.slice A ps.length c,.string key] w fun e w'=>e=.returned (.bool false)∧w=w':=by
 obtain ⟨R,hd⟩:∃ R:Ending→World→Prop,yK (R=fun e w'=>e=.returned (.bool false)∧w=w'):=⟨_,rfl⟩;rw [←hd.o];have HP:=zW h;have HN:=zW hn;clear h hn;obtain ⟨wo,hc⟩:∃ wo,yK (wo=w):=⟨w,rfl⟩;go_enter Tryz.func196,Tryz.ntmps196
 go_wp2_with fail
 go_loopg [8] ps.length (fun gk iv wr=>∃ k:Nat,iv=.int .i64 k∧k≤ps.length∧yK (wr=wo)∧ps.length - k≤gk)
 case atStart=>exact ⟨0,rfl,Nat.zero_le _,hc.o.symm,yQ⟩
 case round=>
  obtain ⟨k,rfl,hk,HW,hgk⟩:=hrel;rw [←hc.o,←HW.o] at HP;by_cases hlt:k < ps.length
  ·obtain ⟨b,o,rfl,hb,c0,c1,c2⟩:=RdP.at_ HP.o k hlt;have ha:=List.getElem_mem hlt;have hn:=HN.o _ ha;have he:(k:Int) < (ps.length:Int):=yY;generalize ps[k]=x at c0 c1 c2 hn;clear ha;cases hun:x.un with
   | false=>
     rw [hun] at c0;clear hn hun;go_wp2_with fail
     go_roundg (ps.length - (k+1))
     case measure=>omega
     case rel=>exact ⟨k+1,rfl,hlt,HW.o,yQ⟩
   | true=>
     rw [hun] at c0;have t1:=hn hun;clear hn hun;go_wp2_with fail
     go_roundg (ps.length - (k+1))
     case measure=>omega
     case rel=>exact ⟨k+1,rfl,hlt,HW.o,yQ⟩
  ·obtain rfl:k=ps.length:=yY;go_wp2_with fail
   first | go_ret | skip
   rw [hd.o];exact ⟨rfl,(HW.o.trans hc.o).symm⟩
theorem Y4n (data:ByteArray) (sub:List UInt8) (p n:Nat) (w:World) (h:Lib.index (data.data.toList.drop p) sub=(n:Int)) (ht:0 < sub.length) (hsz:data.size≤1000000) (hts:sub.length≤1000000):
 Calls Tryz.prog 174 #[.string data,.string (ofL sub),.int .i64 p] w fun e w'=>e=.returned (.int .i64 (p+n:Nat))∧w=w':=
 Q7g data (ofL sub) p n w (by simpa [ofL] using h) (by rw [Q6];exact ht) hsz (by rw [Q6];exact hts)
theorem Z7b (t:List UInt8) (h:V2j t) (s:ByteArray) (r:List UInt8) (hs:s.data.toList=60::t++62::r) (hsz:s.size≤1000000):
 ∃ (k:Int) (u:ByteArray),u.size≤64∧J4 (Z1 u.data.toList)=false∧∀ w,Calls Tryz.prog 135 #[.string s] w (El7 k u (t.length+2) w):=by
 rcases h with ⟨h1,h2⟩ | ⟨u,rfl,h1,h2⟩
 ·refine ⟨2,ofL t,by rw [Q6];exact (U7 t h1).1,by simpa [ofL] using h2,fun w=>?_⟩;have:=X7v s (ofL t) r w (by rw [hs];simp [ofL]) hsz (by simpa [ofL] using h1);rwa [Q6] at this
 ·refine ⟨4,ofL u,by rw [Q6];exact (U7 u h1).1,by simpa [ofL] using h2,fun w=>?_⟩;have:=Y7p s (ofL u) r w (by rw [hs];simp [ofL]) hsz (by simpa [ofL] using h1);rw [Q6] at this;have e:(u++[(47:UInt8)]).length+2=u.length+3:=yW;rw [e];exact this
theorem Y6x (data:ByteArray) (ms:List MK) (w:World) (hd:data.data.toList=X5 ms) (hok:∀ x∈ms,X8f x) (hk:R4 0 ms) (ht:K9 ms≤8) (hsz:data.size≤65536):
 Calls Tryz.prog 168 #[.string data] w (K4 (B8 (Y5 ms).1 (Y5 ms).2) w):=by
 obtain ⟨R,Hk⟩:∃ R:Ending→World→Prop,yK (R=K4 (B8 (Y5 ms).1 (Y5 ms).2) w):=⟨_,rfl⟩;rw [←Hk.o];have HD:=zW hd;have HF:=zW hok;have HK:=zW hk;have Hi:=zW ht;have hT:yK (BlD w.heap.size w.heap.size data 0 (.slice none 0 0) [] (w.alloc (.cells #[.string data,.slice none 0 0,.int .i64 0] 269))):=⟨Array.getElem?_push_size,OwnE.nil,yQ⟩;have hQ:=zW ((Below.refl w.heap.size w).alloc yQ (.cells #[.string data,.slice none 0 0,.int .i64 0] 269));obtain ⟨g,hg⟩:∃ g,yK (g=w.heap.size):=⟨_,rfl⟩;clear hd hok hk ht;go_enter Tryz.func168,Tryz.ntmps168
 go_wp2_with fail
 generalize w.alloc (.cells #[.string data,.slice none 0 0,.int .i64 0] 269)=w0 at hT hQ ⊢;have hw:yK (BlD w.heap.size g data 0 (.slice none 0 0) [] w0):=(by show BlD _ _ _ _ _ _ _;rw [hg.o];exact hT.o);rw [←hg.o];go_loopg [6,7] ms.length (fun gk av bv wr=>∃ dn td,yK (ms=dn++td)∧av=.int .i64 ((X5 dn).length:Nat)∧bv=.int .i64 (K9 dn:Nat)∧(∃ lv,yK (BlD w.heap.size g data (Z2 (Y5 dn).1).length lv (G9 (Y5 dn).1) wr))∧yK (Below w.heap.size w wr)∧td.length≤gk)
 case atStart=>exact ⟨[],ms,rfl,rfl,rfl,⟨_,hw.o⟩,hQ.o,yQ⟩
 case round=>
  obtain ⟨dn,td,HE,rfl,rfl,⟨lv,HP⟩,HB,hgk⟩:=hrel;clear hT hQ hw;cases td with
  | nil=>
    have he:ms=dn:=(by have:=HE.o;rwa [List.append_nil] at this);subst he;have Ha:(X5 ms).length=data.size:=(by rw [Lib.size_eq,HD.o]);have hG:=P6 (Y5 ms).1;have hC:(Z2 (Y5 ms).1).length≤data.size:=by
     rw [←Ha,W9,List.length_append];omega
    have hZ:=Hi.o;rw [M3] at hG;have hL:data.extract (Z2 (Y5 ms).1).length data.size=ofL (Y5 ms).2:=P4 _ _ _ (by rw [HD.o,W9]);have HC:=zW (X5q HP.o hC yY yY);rw [hL,show (⟨#[]⟩:ByteArray)=ofL [] from rfl,←Q4u] at HC;clear hL hC hG hZ;rw [Ha];clear Ha;go_wp2_with (go_at_call 193;refine (HC.o).mono ?_;rintro e w1 ⟨v,rfl,ho,hj⟩;have HO:=zW ho;have hl:=zW (HB.o.trans hj);obtain ⟨A,c,rfl⟩:=Q0 ho;clear ho hj)
    go_ret3
    rw [Hk.o];exact ⟨_,rfl,HO.o,hl.o⟩
  | cons x td=>
    have hx:=HF.o x (by rw [HE.o];simp);have hM:=S6 dn (x::td) 0 (by rw [←HE.o];exact HK.o);have ha:data.data.toList=X5 dn++(Y3 x++X5 td):=(by rw [HD.o,HE.o,Q6k];rfl);have hp:(X5 dn).length+(Y3 x).length+(X5 td).length=data.size:=(by rw [Lib.size_eq,ha];simp;omega);have hN:0 < (Y3 x).length:=by cases x<;>simp [Y3,Y5t]
    have hL:data.extract (X5 dn).length data.size=ofL (Y3 x++X5 td):=P4 _ _ _ ha;have Hd:dn++[x]++td=dn++x::td:=yW;have hO:X5 (dn++[x])=X5 dn++Y3 x:=(by rw [Q6k];simp [X5]);have ij:((X5 dn).length:Int) < (data.size:Int):=yY;have ie:(X5 dn).length < data.size:=yY;have ig:(X5 dn).length≤data.size:=yY;have HM:td.length+1≤gk:=hgk;have hn:∀ c l,Y3 x=c::l→data[(X5 dn).length]=c:=fun c l e=>by
     have:=L2 data (X5 dn) (Y3 x++X5 td) ha 0 (X5 dn).length (by rw [e];simp) rfl ie;rw [this];simp [e]
    have hf:yK (((X5 dn).length:Int)+((Y3 x).length:Int)=((X5 (dn++[x])).length:Nat)):=(by show _=_;rw [hO,List.length_append];simp);have hJ:yK (ms=dn++[x]++td):=(by show _=_;rw [Hd];exact HE.o);have Hq:(Y3 x).length≤65536:=yY;have Hg:(X5 dn).length+(Y3 x).length≤data.size:=yY;by_cases hb:∃ t k ts,x=.blk t k ts
    ·obtain ⟨t,key,ts,rfl⟩:=hb;obtain ⟨hc,ht,hs⟩:=hx;obtain ⟨hD,Hc,_⟩:=hM;have Ho:=hn 60 _ rfl;have n60:((data[(X5 dn).length].toNat:Int) != 60)=false:=(by rw [Ho];rfl);have hP:(ofL (Y3 (.blk t key ts)++X5 td)).size≤1000000:=(by rw [Q6,List.length_append];omega);obtain ⟨d,q,hA,Hp⟩:=E4 t hc;have Hs:∀ X,Lib.hasPrefix (60::(t++X)) [60,33,45,45]=false:=fun X=>by
      rw [hA];exact X0m d (q++X) (O3 d Hp 33 yW)
     have CB:=zW (fun W=>N2 (ofL (Y3 (.blk t key ts)++X5 td)) (⟨#[60,33,45,45]⟩:ByteArray) false (by
      have:=Hs (62::(Q2 ts++G6 t)++X5 td);simpa [ofL,Y3] using this) W yX)
     have CT:=zW (fun W=>X7v (ofL (Y3 (.blk t key ts)++X5 td)) (ofL t) (Q2 ts++(G6 t++X5 td)) W (by simp [ofL,Y3]) hP (by simpa [ofL] using hc));rw [Q6] at CT;have ih:(ofL t).size≤64:=(by rw [Q6];exact (U7 t hc).1);have CN:=zW (fun W=>B5 (ofL t) W yY);rw [show (⟨(M9 (ofL t).data.toList).toArray⟩:ByteArray)=ofL (Z1 t) by simp [ofL];rfl] at CN;have CBL:=zW (fun W=>Y9x (ofL (Z1 t)) W (by simpa [ofL] using ht));have HR:(((t.length+2:Nat):Int)==0)=false:=(by rw [beq_eq_false_iff_ne];omega);have Hw:(Y3 (.blk t key ts)).length=(t.length+2)+(Q2 ts).length+(G6 t).length:=(by simp [Y3];omega);have Hv:(Q2 ts).length≤65536:=yY;have hm:(X5 dn++(60::t++[62])).length=(X5 dn).length+(t.length+2):=yW;have HL:data.extract ((X5 dn).length+(t.length+2)) data.size=ofL (Q2 ts++(G6 t++X5 td)):=by
      have:=P4 data (X5 dn++(60::t++[62])) (Q2 ts++(G6 t++X5 td)) (by rw [ha];simp [Y3]);rw [hm] at this;exact this
     have hW:data.extract ((X5 dn).length+(t.length+2)) ((X5 dn).length+(t.length+2)+(Q2 ts).length)=ofL (Q2 ts):=by
      have:=N9 data (X5 dn++(60::t++[62])) (Q2 ts) (G6 t++X5 td) ((X5 dn).length+(t.length+2)+(Q2 ts).length) (by rw [ha];simp [Y3]) yW;rw [hm] at this;exact this
     have hH:=W9 dn;have Hm:data.extract (Z2 (Y5 dn).1).length ((X5 dn).length+(t.length+2))=ofL ((Y5 dn).2++(60::t++[62])):=
      N9 data (Z2 (Y5 dn).1) ((Y5 dn).2++(60::t++[62])) (Q2 ts++(G6 t++X5 td)) _ (by rw [ha,hH];simp [Y3]) (by rw [hH];simp;omega)
     have hC:(Z2 (Y5 dn).1).length≤(X5 dn).length+(t.length+2):=(by rw [hH,List.length_append];omega);have Hr:∀ b∈Z1 t,b≠62:=fun b hb=>by
      obtain ⟨r,hr⟩:=X1j t;exact (Q0k _ hc).1 b (by rw [hr];exact List.mem_append.2 (.inl hb))
     have hB:data.data.toList.drop ((X5 dn).length+(t.length+2))=Q2 ts++(G6 t++X5 td):=by
      rw [ha,←hm,show X5 dn++(Y3 (.blk t key ts)++X5 td)=(X5 dn++(60::t++[62]))++(Q2 ts++(G6 t++X5 td)) by simp [Y3],List.drop_left]
     have CF:=zW (fun W=>Y4n data (G6 t) ((X5 dn).length+(t.length+2)) (Q2 ts).length W (by rw [hB];exact Y1q (Z1 t) Hr ht (X5 td) ts hs.els) (by simp [G6]) yY (by have:=X1k t;have:=(U7 t hc).1;simp [G6];omega));have HA:=zW (fun W=>X7i 1 (.inl rfl) (ofL (Q2 ts)) ts W hs (by simp [ofL]) (by rw [Q6];exact Hv));have hZ:K9 dn+1≤8:=by
      have h1:=Hi.o;have h2:K9 ms=K9 dn+(K9 td+1):=(by rw [HE.o,Q3i];rfl);omega
     have Hj:=zW (fun w=>X7c (K9 dn+1) yY hZ w);rw [show ofL (Lib.decDigits (K9 dn+1))=ofL key by rw [hD,Nat.zero_add],show ((K9 dn+1:Nat):Int)=(K9 dn:Int)+1 from rfl] at Hj;have hG:=P6 (Y5 dn).1;rw [M3] at hG;have HU:=zW (fun (lv:Value) (w':World) (h:BlD w.heap.size g data (Z2 (Y5 dn).1).length lv (G9 (Y5 dn).1) w')=>(X3a ((X5 dn).length+(t.length+2)) ((X5 dn).length+(t.length+2)+(Q2 ts).length) (ofL key) h hC yY yY yY yY).mono fun _ _ ⟨h1,lv',h2,h3,_⟩=>show (∃ v,_=Ending.returned v)∧∃ lv',BlD w.heap.size g data ((X5 dn).length+(t.length+2)+(Q2 ts).length) lv' _ _∧Below w.heap.size w' _ from ⟨h1,lv',h2,h3⟩);rw [Hm,hW,show (⟨#[]⟩:ByteArray)=ofL [] from rfl,←Q1n (Y5 dn).1 ⟨(Y5 dn).2++(60::t++[62]),key,ts⟩] at HU;have hK:yK (Y5 (dn++[.blk t key ts])=((Y5 dn).1++[⟨(Y5 dn).2++(60::t++[62]),key,ts⟩],G6 t)):=(by show _=_;rw [Q5b];rfl);have hR:yK ((Z2 (Y5 (dn++[.blk t key ts])).1).length=(X5 dn).length+(t.length+2)+(Q2 ts).length):=by
      show _=_;rw [hK.o,Q1o,hH];simp;omega
     have Hb:(G6 t).length=(Z1 t).length+3:=(by simp [G6]);have hv:yK ((K9 dn:Int)+1=((K9 (dn++[.blk t key ts]):Nat):Int)):=(by show _=_;rw [Q3i];rfl);have ic:(⟨#[60,47]⟩:ByteArray)++ofL (Z1 t)++(⟨#[62]⟩:ByteArray)=ofL (G6 t):=by
      apply ByteArray.ext;apply Array.toList_inj.1;simp [ofL,G6]
     have HV:(ofL (Z1 t)).size=(Z1 t).length:=Q6 _;have HT:(Z1 t).length≤64:=(by have:=X1k t;have:=(U7 t hc).1;omega);have hq:(X5 dn).length+(t.length+2)+(Q2 ts).length+(G6 t).length≤data.size:=yY;have hi:yK (((((X5 dn).length+(t.length+2)+(Q2 ts).length:Nat):Int)+((Z1 t).length:Int))+3=((X5 (dn++[.blk t key ts])).length:Nat)):=(by show _=_;rw [hO,List.length_append,Hw,Hb];omega);clear hf hO Hd hN ha hD Hc hc ht hs Hw Hv Hm hC Hr hG hH hp hm hB Ho hn hA Hp Hq Hg hP Hs;rw [Hb] at hq;clear Hb;generalize ofL (Y3 (.blk t key ts)++X5 td)=u1 at *;generalize ofL (Q2 ts++(G6 t++X5 td))=u2 at *;generalize ofL (Q2 ts)=u3 at *;generalize ofL (Z1 t)=nm at *;generalize ofL (G6 t)=pat at *;generalize ofL t=tb at *;generalize (Z1 t).length=nl at *;generalize t.length+2=n at *;generalize (X5 dn).length=p at *;generalize (Q2 ts).length=l at *;obtain ⟨p2,He⟩:∃ p2,yK (p2=p+n):=⟨_,rfl⟩;obtain ⟨p3,Hf⟩:∃ p3,yK (p3=p2+l):=⟨_,rfl⟩;rw [←He.o] at CF HU hR HL hW hi hq;rw [←Hf.o] at CF HU hR hW hi hq;have ii:p+n≤data.size:=(by have:=He.o;have:=Hf.o;omega);have HJ:yK ((p:Int)+(n:Int)=(p2:Int)):=(by show _=_;have:=He.o;omega);have HW:p2≤p3:=(by have:=Hf.o;omega);have HY:(0:Int)≤(p3:Int):=yY;have HZ:p3≤data.size:=yY;have HS:nm.size≤64:=yY;go_upto_region 11 with (first
      | (go_at_call 136;refine (CB.o _).mono ?_;rintro e w' ⟨rfl,rfl⟩)
      | (go_at_call 135;refine (CT.o _).mono ?_;rintro e w1 ⟨rfl,hj⟩;have hy:=zW (HP.o.below hj);have hl:=zW (HB.o.trans (hj.mono HB.o.size));clear hj))
     have HX:=zW (show (w1.alloc (.cells #[.int .i64 2,.string tb,.int .i64 0] 31)).heap[w1.heap.size]? =some (.cells #[.int .i64 2,.string tb,.int .i64 0] 31) from Array.getElem?_push_size);have hU:=zW (hy.o.alloc (.cells #[.int .i64 2,.string tb,.int .i64 0] 31));have hI:=zW (hl.o.alloc hl.o.size (.cells #[.int .i64 2,.string tb,.int .i64 0] 31));clear hy hl;generalize w1.alloc (.cells #[.int .i64 2,.string tb,.int .i64 0] 31)=w2 at *;obtain ⟨x0,x1,x2,_⟩:=bx3 HX.o;go_upto_region 15 with (first
      | (go_at_call 36;refine (CN.o _).mono ?_;rintro e w' ⟨rfl,rfl⟩)
      | (go_at_call 51;refine (CBL.o _).mono ?_;rintro e w' ⟨rfl,rfl⟩))
     rw [HJ.o];go_wp2_with (first
      | (go_at_call 51;refine (CBL.o _).mono ?_;rintro e w' ⟨rfl,rfl⟩)
      | (go_at_call 174;refine (CF.o _).mono ?_;rintro e w' ⟨rfl,rfl⟩)
      | (go_at_call 20;refine (HA.o _).mono ?_;rintro e w3 ⟨v3,vc3,rfl,Ht,hF,hX⟩;obtain ⟨A3,c3,rfl⟩:=Q0 Ht;obtain ⟨A4,c4,rfl⟩:=Q0 hF;have HG:=zW (hU.o.below hX);have Hh:=zW (hI.o.trans (hX.mono hI.o.size));clear Ht hF hX)
      | (go_at_call 134;refine (Hj.o _).mono ?_;rintro e w4 ⟨rfl,hY⟩;have HH:=zW (HG.o.below hY);have Hy:=zW (Hh.o.trans (hY.mono Hh.o.size));clear hY)
      | (go_at_call 192;refine (HU.o _ _ (by exact HH.o)).mono ?_;rintro e w5 ⟨⟨v5,rfl⟩,lv5,Hu,Hn⟩;have HI:=zW Hu;have Hz:=zW (Hy.o.trans Hn);clear Hu Hn))
     rw [hi.o,hv.o];go_roundg td.length
     case measure=>omega
     case rel=>
      refine ⟨dn++[MK.blk t key ts],td,hJ.o,rfl,rfl,⟨lv5,?_⟩,Hz.o,yQ⟩;rw [hR.o,hK.o];exact HI.o
    ·have hu:∀ t k ts,x≠.blk t k ts:=fun t k ts e=>hb ⟨t,k,ts,e⟩;have hv:=zW (X8z dn x hu);have hK:yK (Y5 (dn++[x])=((Y5 dn).1,(Y5 dn).2++Y3 x)):=(by show _=_;rw [Q5b,X1i _ _ hu]);have hS:yK (∀ W,BlD w.heap.size g data (Z2 (Y5 dn).1).length lv (G9 (Y5 dn).1) W→BlD w.heap.size g data (Z2 (Y5 (dn++[x])).1).length lv (G9 (Y5 (dn++[x])).1) W):=fun W h=>by rw [hK.o];exact h
     clear hb hO Hd;cases x with
     | blk t k ts=>exact absurd rfl (hu t k ts)
     | byte c=>
       have hc:=hn c [] rfl;have n60:((data[(X5 dn).length].toNat:Int) != 60)=true:=Q6s _ 60 (fun e=>hx (hc.symm.trans e));have hV:yK (((X5 dn).length:Int)+1=((X5 (dn++[MK.byte c])).length:Nat)):=hf.o;clear hc hn hx ha hp hN hL hM hu;generalize (X5 dn).length=p at *;go_wp2_with fail
       rw [hV.o];go_roundg td.length
       case measure=>omega
       case rel=>exact ⟨dn++[MK.byte c],td,hJ.o,rfl,by rw [hv.o],⟨lv,hS.o _ HP.o⟩,HB.o,yQ⟩
     | note=>
       have hc:=hn 60 _ rfl;have n60:((data[(X5 dn).length].toNat:Int) != 60)=false:=(by rw [hc];rfl);have hV:yK (((X5 dn).length:Int)+12=((X5 (dn++[MK.note])).length:Nat)):=hf.o;have CB:=zW (fun W=>N2 (ofL (Y3 .note++X5 td)) (⟨#[60,33,45,45]⟩:ByteArray) true (by simp [ofL,Y3,Y5t,Lib.hasPrefix,List.isPrefixOf]) W yX);have hB:data.data.toList.drop ((X5 dn).length+4)=[32,60,112,62,32,45,45,62]++X5 td:=by
        rw [ha,←List.drop_drop,List.drop_left];rfl
       have CF:=zW (fun W=>Y4n data [45,45,62] ((X5 dn).length+4) 5 W (by rw [hB];simp [Lib.index,List.isPrefixOf]) yX yY yX);rw [show ofL [45,45,62]=(⟨#[45,45,62]⟩:ByteArray) from rfl] at CF;have HQ:(X5 dn).length+12≤data.size:=Hg;clear hc hn hx ha hp hN hM hu hB;generalize ofL (Y3 .note++X5 td)=u at *;generalize (X5 dn).length=p at *;have ia:((p+4:Nat):Int)=(p:Int)+4:=rfl;have ib:((p+4+5:Nat):Int)=(p:Int)+9:=rfl;rw [ia,ib] at CF;go_wp2_with (first
        | (go_at_call 136;refine (CB.o _).mono ?_;rintro e w' ⟨rfl,rfl⟩)
        | (go_at_call 174;refine (CF.o _).mono ?_;rintro e w' ⟨rfl,rfl⟩))
       rw [show (p:Int)+9+3=(p:Int)+12 by omega,hV.o];go_roundg td.length
       case measure=>omega
       case rel=>exact ⟨dn++[MK.note],td,hJ.o,rfl,by rw [hv.o],⟨lv,hS.o _ HP.o⟩,HB.o,yQ⟩
     | tag t=>
       have hc:=hn 60 _ rfl;have n60:((data[(X5 dn).length].toNat:Int) != 60)=false:=(by rw [hc];rfl);have hE:(Y3 (.tag t)).length=t.length+2:=(by simp [Y3]);rw [hE] at hf Hg;have hP:(ofL (Y3 (.tag t)++X5 td)).size≤1000000:=(by rw [Q6,List.length_append];omega);have HN:∃ d q,t=d::q∧d≠33:=by
        rcases hx with ⟨h1,_⟩ | ⟨u,rfl,h1,_⟩
        ·obtain ⟨d,q,e,hh⟩:=E4 t h1;exact ⟨d,q,e,O3 d hh 33 yW⟩
        ·obtain ⟨d,q,e,hh⟩:=E4 u h1;exact ⟨d,q++[47],by rw [e];rfl,O3 d hh 33 yW⟩
       obtain ⟨d,q,hA,hz⟩:=HN;have CB:=zW (fun W=>N2 (ofL (Y3 (.tag t)++X5 td)) (⟨#[60,33,45,45]⟩:ByteArray) false (by
        have:=X0m d (q++[62]++X5 td) hz;rw [hA];simpa [ofL,Y3] using this) W yX)
       obtain ⟨k,u,ih,Hx,Hl⟩:=Z7b t hx (ofL (Y3 (.tag t)++X5 td)) (X5 td) (by simp [ofL,Y3]) hP;have CT:=zW Hl;have CN:=zW (fun W=>B5 u W yY);rw [show (⟨(M9 u.data.toList).toArray⟩:ByteArray)=ofL (Z1 u.data.toList) from rfl] at CN;have CBL:=zW (fun W=>Q3w (ofL (Z1 u.data.toList)) W (by simpa [ofL] using Hx));have HR:(((t.length+2:Nat):Int)==0)=false:=(by rw [beq_eq_false_iff_ne];omega);clear hc hn hx ha hp hN hM hu hA hz Hq Hl Hx hE;generalize ofL (Y3 (.tag t)++X5 td)=uu at *;generalize ofL (Z1 u.data.toList)=nm at *;generalize (X5 dn).length=p at *;generalize t.length+2=n at *;go_upto_region 11 with (first
        | (go_at_call 136;refine (CB.o _).mono ?_;rintro e w' ⟨rfl,rfl⟩)
        | (go_at_call 135;refine (CT.o _).mono ?_;rintro e w1 ⟨rfl,hj⟩;have hy:=zW (HP.o.below hj);have hl:=zW (HB.o.trans (hj.mono HB.o.size));clear hj))
       have HX:=zW (show (w1.alloc (.cells #[.int .i64 k,.string u,.int .i64 0] 31)).heap[w1.heap.size]? =some (.cells #[.int .i64 k,.string u,.int .i64 0] 31) from Array.getElem?_push_size);have hU:=zW (hy.o.alloc (.cells #[.int .i64 k,.string u,.int .i64 0] 31));have hI:=zW (hl.o.alloc hl.o.size (.cells #[.int .i64 k,.string u,.int .i64 0] 31));clear hy hl;generalize w1.alloc (.cells #[.int .i64 k,.string u,.int .i64 0] 31)=w2 at *;obtain ⟨x0,x1,x2,_⟩:=bx3 HX.o;go_wp2_with (first
        | (go_at_call 36;refine (CN.o _).mono ?_;rintro e w' ⟨rfl,rfl⟩)
        | (go_at_call 51;refine (CBL.o _).mono ?_;rintro e w' ⟨rfl,rfl⟩))
       rw [hf.o];go_roundg td.length
       case measure=>omega
       case rel=>exact ⟨dn++[MK.tag t],td,hJ.o,rfl,by rw [hv.o],⟨lv,hS.o _ hU.o⟩,hI.o,yQ⟩
theorem X7z:∀ (ls:List RL) (st:List Un×List UInt8),(ls.foldl L7 st).1.map (fun (u:Un)=>u.key)=st.1.map (fun (u:Un)=>u.key)++Y8 ls
 | [],st=>by simp [Y8]
 | x::ls,st=>by
   rw [List.foldl_cons,X7z ls];cases x with
   | skip l=>rfl
   | unit k ts=>
     show (st.1++[_]).map (fun (u:Un)=>u.key)++_=_++(k::Y8 ls);simp
theorem Y6e:∀ (us:List Un),∀ p∈G9 us,p.un=true→∃ u∈us,p.key=ofL u.key
 | [],p,h,_=>by simp [G9] at h
 | u::us,p,h,hu=>by
   rw [show G9 (u::us)=[⟨false,ofL [],ofL u.sk⟩,⟨true,ofL u.key,ofL (Q2 u.ts)⟩]++G9 us from rfl] at h;rcases List.mem_append.1 h with h | h
   ·simp only [List.mem_cons,List.not_mem_nil,or_false] at h;rcases h with rfl | rfl
    ·cases hu
    ·exact ⟨u,by simp,rfl⟩
   ·obtain ⟨v,hv,e⟩:=Y6e us p h hu;exact ⟨v,by simp [hv],e⟩
theorem V4b (dn:List RL) (k:List UInt8) (h:((Y8 dn).any fun x=>x==k)=false):∀ p∈G9 (Y0 dn).1,p.un=true→(p.key.toList==(ofL k).toList)=false:=by
 intro p hp hu;obtain ⟨u,ha,e⟩:=Y6e _ p hp hu;have hk:u.key∈Y8 dn:=by
  have:=X7z dn ([],[]);rw [show (([],[]):List Un×List UInt8).1.map (fun (u:Un)=>u.key)=[] from rfl,List.nil_append] at this;rw [←this];exact List.mem_map.2 ⟨u,ha,rfl⟩
 rw [List.any_eq_false] at h;have:=h _ hk;rw [e,B9,B9];simpa using this
def Q1t (l:List UInt8):Nat:=(l.takeWhile Q2l).length
theorem V6v (l r:List UInt8) (j:Nat) (h:j < Q1t l):∃ h2:j < (l++r).length,(l++r)[j]=32∨((l++r)[j]≠32∧(l++r)[j]=9):=by
 have hl:Q1t l≤l.length:=(by unfold Q1t;exact (List.takeWhile_prefix _).length_le);refine ⟨by simp;omega,?_⟩;rw [List.getElem_append_left yY];have he:l[j]'yY=(l.takeWhile Q2l)[j]'h:=by
  obtain ⟨q,hq⟩:=List.takeWhile_prefix (p:=Q2l) (l:=l);have:(l.takeWhile Q2l++q)[j]'(by rw [hq];omega)=(l.takeWhile Q2l)[j]'h:=List.getElem_append_left h;simp only [hq] at this;exact this
 have hb:=List.all_eq_true.1 (List.all_takeWhile (p:=Q2l) (l:=l)) _ (List.getElem_mem h);rw [←he] at hb;unfold Q2l at hb;simp only [Bool.or_eq_true,beq_iff_eq] at hb;by_cases h32:l[j]'yY=32
 ·exact .inl h32
 ·exact .inr ⟨h32,by rcases hb with hb | hb;exact absurd hb h32;exact hb⟩
theorem V2v (l r:List UInt8) (h:Q5h l=true):∃ h2:Q1t l < (l++10::r).length,(l++10::r)[Q1t l]=10∨((l++10::r)[Q1t l]≠10∧(l++10::r)[Q1t l]=35):=by
 have e:l=l.takeWhile Q2l++l.dropWhile Q2l:=(List.takeWhile_append_dropWhile).symm;have hl:Q1t l≤l.length:=(by unfold Q1t;exact (List.takeWhile_prefix _).length_le);have ha:Q1t l < (l++10::r).length:=yV;refine ⟨ha,?_⟩;have hd:(l++10::r).drop (Q1t l)=l.dropWhile Q2l++10::r:=by
  conv=>lhs;rw [e]
  rw [List.append_assoc];unfold Q1t;conv=>lhs;arg 1;rw [←e]
  rw [List.drop_left]
 have hg:(l++10::r)[Q1t l]::(l++10::r).drop (Q1t l+1)=l.dropWhile Q2l++10::r:=(by rw [←hd];exact (List.drop_eq_getElem_cons ha).symm);cases hw:l.dropWhile Q2l with
 | nil=>
   rw [hw] at hg;injection hg with hg _;exact .inl hg
 | cons c q=>
   have:=X9u l c q hw;rw [h] at this;have hc:c=35:=(by simpa using this.symm);rw [hw,hc] at hg;injection hg with hg _;exact .inr ⟨by rw [hg];decide,hg⟩
theorem V6w (l:List UInt8):Q1t l≤l.length:=by unfold Q1t;exact (List.takeWhile_prefix _).length_le
theorem Y6y (data:ByteArray) (ls:List RL) (w:World) (hd:data.data.toList=X4 ls) (hok:∀ x∈ls,X8g x) (hk:(Y8 ls).Nodup) (hkl:(Y8 ls).length≤1000) (hsz:data.size≤65536):
 Calls Tryz.prog 169 #[.string data] w (K4 (B8 (Y0 ls).1 (Y0 ls).2) w):=by
 obtain ⟨R,Ho⟩:∃ R:Ending→World→Prop,yK (R=K4 (B8 (Y0 ls).1 (Y0 ls).2) w):=⟨_,rfl⟩;rw [←Ho.o];have HD:=zW hd;have HJ:=zW hok;have HK:=zW hk;have Hl:=zW hkl;have hZ:yK (BlD w.heap.size w.heap.size data 0 (.slice none 0 0) [] (w.alloc (.cells #[.string data,.slice none 0 0,.int .i64 0] 269))):=⟨Array.getElem?_push_size,OwnE.nil,yQ⟩;have hV:=zW ((Below.refl w.heap.size w).alloc yQ (.cells #[.string data,.slice none 0 0,.int .i64 0] 269));obtain ⟨g,hg⟩:∃ g,yK (g=w.heap.size):=⟨_,rfl⟩;clear hd hok hk hkl;go_enter Tryz.func169,Tryz.ntmps169
 go_wp2_with fail
 generalize w.alloc (.cells #[.string data,.slice none 0 0,.int .i64 0] 269)=w0 at hZ hV ⊢;have hC:yK (BlD w.heap.size g data 0 (.slice none 0 0) [] w0):=(by show BlD _ _ _ _ _ _ _;rw [hg.o];exact hZ.o);rw [←hg.o];go_loopg [6] ls.length (fun gk av wr=>∃ dn td,yK (ls=dn++td)∧av=.int .i64 ((X4 dn).length:Nat)∧(∃ lv,yK (BlD w.heap.size g data (Z2 (Y0 dn).1).length lv (G9 (Y0 dn).1) wr))∧yK (Below w.heap.size w wr)∧td.length≤gk)
 case atStart=>exact ⟨[],ls,rfl,rfl,⟨_,hC.o⟩,hV.o,yQ⟩
 case round=>
  obtain ⟨dn,td,HE,rfl,⟨lv,HP⟩,HB,hgk⟩:=hrel;clear hZ hV hC;cases td with
  | nil=>
    have he:ls=dn:=(by have:=HE.o;rwa [List.append_nil] at this);subst he;have hu:(X4 ls).length=data.size:=(by rw [Lib.size_eq,HD.o]);have hn:=P6 (Y0 ls).1;have hH:(Z2 (Y0 ls).1).length≤data.size:=by
     rw [←hu,Q0a,List.length_append];omega
    have HT:=Hl.o;rw [Q0c] at hn;have Hu:data.extract (Z2 (Y0 ls).1).length data.size=ofL (Y0 ls).2:=P4 _ _ _ (by rw [HD.o,Q0a]);have HC:=zW (X5q HP.o hH yY yY);rw [Hu,show (⟨#[]⟩:ByteArray)=ofL [] from rfl,←Q4u] at HC;clear Hu hH hn HT;rw [hu];clear hu;go_wp2_with (go_at_call 193;refine (HC.o).mono ?_;rintro e w1 ⟨v,rfl,ho,Hf⟩;have HO:=zW ho;have HG:=zW (HB.o.trans Hf);obtain ⟨A,c,rfl⟩:=Q0 ho;clear ho Hf)
    go_ret3
    rw [Ho.o];exact ⟨_,rfl,HO.o,HG.o⟩
  | cons x td=>
    have hx:=HJ.o x (by rw [HE.o];simp);have hr:data.data.toList=X4 dn++(K7 x++X4 td):=V1d dn td x data (by rw [HD.o,HE.o]);have hp:(X4 dn).length+(K7 x).length+(X4 td).length=data.size:=(by rw [Lib.size_eq,hr];simp;omega);have Hh:dn++[x]++td=dn++x::td:=yW;have Hi:X4 (dn++[x])=X4 dn++K7 x:=(by rw [X0y];simp [X4]);have Hz:0 < (K7 x).length:=by cases x<;>(simp [K7];try omega)
    have iv:((X4 dn).length:Int) < (data.size:Int):=yY;have HX:td.length+1≤gk:=hgk;have hw:=zW (L2 data (X4 dn) (K7 x++X4 td) hr);have hi:yK (((X4 dn).length:Int)+((K7 x).length:Int)=((X4 (dn++[x])).length:Nat)):=(by show _=_;rw [Hi,List.length_append];simp);have hS:yK (ls=dn++[x]++td):=(by show _=_;rw [Hh];exact HE.o);have Hy:(X4 dn).length+(K7 x).length≤data.size:=yY;cases x with
    | skip l=>
      obtain ⟨hl,Hv⟩:=hx;have hh:K7 (.skip l)++X4 td=l++10::X4 td:=(by simp [K7]);have hO:(K7 (.skip l)).length=l.length+1:=(by simp [K7]);rw [hh] at hw hr;rw [hO] at hi Hy;have HZ:=zW (fun j h=>V6v l (10::X4 td) j h);have HQ:=zW (V2v l (X4 td) Hv);have iw:=V6w l;have hR:=zW (fun W=>Z0d data (X4 dn++l.take (Q1t l)) (l.drop (Q1t l)) (X4 td) W (by rw [hr,List.append_assoc,←List.append_assoc (l.take _),List.take_append_drop]) (fun c hc=>hl c (List.mem_of_mem_drop hc)) yY);have hn:(X4 dn++l.take (Q1t l)).length=(X4 dn).length+Q1t l:=(by rw [List.length_append,List.length_take];omega);rw [hn,List.length_drop,show (X4 dn).length+Q1t l+(l.length - Q1t l)=(X4 dn).length+l.length by omega] at hR;have hD:yK (Y0 (dn++[.skip l])=((Y0 dn).1,(Y0 dn).2++(l++[10]))):=(by show _=_;rw [Q5c];rfl);have Hm:yK (∀ W,BlD w.heap.size g data (Z2 (Y0 dn).1).length lv (G9 (Y0 dn).1) W→BlD w.heap.size g data (Z2 (Y0 (dn++[RL.skip l])).1).length lv (G9 (Y0 (dn++[RL.skip l])).1) W):=fun W h=>by rw [hD.o];exact h
      have hI:(l++10::X4 td).length=l.length+1+(X4 td).length:=yV;have HI:=zW hI;clear hr hp Hz hh hO hl Hv Hi Hh hn hI;generalize l++10::X4 td=L at *;generalize Q1t l=z at *;generalize hq:(X4 dn).length=q at *;obtain ⟨wo,hz⟩:∃ wo,yK (wo=wr):=⟨wr,rfl⟩;clear hq;go_wp2_with fail
      go_loopg [7] (z+1) (fun gz kv wz=>∃ j:Nat,kv=.int .i64 (q+j:Nat)∧j≤z∧yK (wz=wo)∧z+1 - j≤gz)
      case atStart=>exact ⟨0,rfl,Nat.zero_le _,hz.o.symm,yQ⟩
      case round=>
       obtain ⟨j,rfl,hj,HW,HY⟩:=hrel;obtain ⟨p,hb⟩:∃ p,p=q+j:=⟨_,rfl⟩;rw [←hb];have hN:p < data.size:=yY;have ii:(p:Int) < (data.size:Int):=yY;by_cases hjz:j < z
       ·obtain ⟨Hg,hc⟩:=HZ.o j hjz;have ha:=hw.o j p Hg hb hN;have hT:yK ((p:Int)+1=((q+(j+1):Nat):Int)):=(by show _=_;omega);rcases hc with hc | ⟨hc1,hc⟩
        ·have n32:((data[p].toNat:Int)==32)=true:=(by rw [ha,hc];rfl);clear ha hc hb;go_wp2_with fail
         rw [hT.o];go_roundg (z - j)
         case measure=>omega
         case rel=>exact ⟨j+1,rfl,hjz,HW.o,yY⟩
        ·have n32:((data[p].toNat:Int)==32)=false:=(by rw [ha];exact X8 _ 32 hc1);have n9:((data[p].toNat:Int)==9)=true:=(by rw [ha,hc];rfl);clear ha hc hc1 hb;go_wp2_with fail
         rw [hT.o];go_roundg (z - j)
         case measure=>omega
         case rel=>exact ⟨j+1,rfl,hjz,HW.o,yY⟩
       ·obtain rfl:j=z:=yY;obtain ⟨ip,HF⟩:=HQ.o;have HN:=zW HF;have ha:=hw.o j p ip hb hN;clear HF;have hA:wr=wo:=HW.o;have Hp:yK ((q:Int)+(l.length:Int)+1=((X4 (dn++[RL.skip l])).length:Nat)):=(by show _=_;have:=hi.o;omega);have io:q+l.length+1≤data.size:=yY;have HV:¬ (data.size:Int)≤(p:Int):=yY;rw [←hb] at hR;have hs:yK (BlD w.heap.size g data (Z2 (Y0 dn).1).length lv (G9 (Y0 dn).1) wr):=(by show BlD _ _ _ _ _ _ _;rw [hA,hz.o];exact HP.o);have hy:yK (Below w.heap.size w wr):=(by show Below _ _ _;rw [hA,hz.o];exact HB.o);clear hA;rcases HN.o with hc | ⟨hc1,hc⟩
        ·have n32:((data[p].toNat:Int)==32)=false:=(by rw [ha,hc];rfl);have n9:((data[p].toNat:Int)==9)=false:=(by rw [ha,hc];rfl);have n10:((data[p].toNat:Int)==10)=true:=(by rw [ha,hc];rfl);clear ha hc hb;go_wp2_with (go_at_call 194;refine (hR.o _).mono ?_;rintro e w' ⟨rfl,rfl⟩)
         rw [Hp.o];go_roundg td.length
         case measure=>omega
         case rel=>exact ⟨dn++[RL.skip l],td,hS.o,rfl,⟨lv,Hm.o _ hs.o⟩,hy.o,yQ⟩
        ·have n32:((data[p].toNat:Int)==32)=false:=(by rw [ha,hc];rfl);have n9:((data[p].toNat:Int)==9)=false:=(by rw [ha,hc];rfl);have n10:((data[p].toNat:Int)==10)=false:=(by rw [ha];exact X8 _ 10 hc1);have n35:((data[p].toNat:Int)==35)=true:=(by rw [ha,hc];rfl);clear ha hc hc1 hb;go_wp2_with (go_at_call 194;refine (hR.o _).mono ?_;rintro e w' ⟨rfl,rfl⟩)
         rw [Hp.o];go_roundg td.length
         case measure=>omega
         case rel=>exact ⟨dn++[RL.skip l],td,hS.o,rfl,⟨lv,Hm.o _ hs.o⟩,hy.o,yQ⟩
    | unit key ts=>
      obtain ⟨ib,ic,Hw,hh⟩:=hx;have HA:K7 (.unit key ts)++X4 td=key++(61::(Q2 ts++10::X4 td)):=(by simp [K7]);have hO:(K7 (.unit key ts)).length=key.length+1+(Q2 ts).length+1:=(by simp [K7];omega);rw [HA] at hw hr;rw [hO] at hi Hy;have im:(Q2 ts).length≤65536:=yY;have hu:data.data.toList=(X4 dn++(key++[61]))++(Q2 ts++10::X4 td):=(by rw [hr];simp);have hn:(X4 dn++(key++[(61:UInt8)])).length=(X4 dn).length+key.length+1:=yV;have Hc:=X5r (X4 td) ts hh.els;have hB:=zW (fun W=>Z0e data (X4 dn++(key++[61])) (Q2 ts++10::X4 td) W hu (by rw [Hc];simp) yY);rw [hn,Hc] at hB;have hP:=Q0a dn;have HS:data.extract (X4 dn).length ((X4 dn).length+key.length)=ofL key:=N9 data (X4 dn) key (61::(Q2 ts++10::X4 td)) _ (by rw [hr];simp) rfl;have Hd:data.extract ((X4 dn).length+key.length+1) ((X4 dn).length+key.length+1+(Q2 ts).length)=ofL (Q2 ts):=by
       have:=N9 data (X4 dn++(key++[61])) (Q2 ts) (10::X4 td) ((X4 dn).length+key.length+1+(Q2 ts).length) (by rw [hu];simp) (by rw [hn]);rwa [hn] at this
      have Ht:data.extract (Z2 (Y0 dn).1).length ((X4 dn).length+key.length+1)=ofL ((Y0 dn).2++(key++[61])):=
       N9 data (Z2 (Y0 dn).1) ((Y0 dn).2++(key++[61])) (Q2 ts++10::X4 td) _ (by rw [hu,hP];simp) (by rw [hP];simp;omega)
      have hH:(Z2 (Y0 dn).1).length≤(X4 dn).length+key.length+1:=(by rw [hP,List.length_append];omega);have Hj:=zW (fun W=>X7i 2 (.inr (.inl rfl)) (ofL (Q2 ts)) ts W hh (by simp [ofL]) (by rw [Q6];exact im));have Hx:=Y5a dn key ts td (by rw [←HE.o];exact HK.o);have ie:(Y8 dn).length≤1000:=by
       have h1:=Hl.o;rw [HE.o,T9,List.length_append] at h1;omega
      have hM:=P6 (Y0 dn).1;rw [Q0c] at hM;have HH:=zW (fun (A:Option Addr) (c:Nat) (W:World) (h:RdE ptC 3 W (.slice A (G9 (Y0 dn).1).length c) (G9 (Y0 dn).1))=>V5m (G9 (Y0 dn).1) A c (ofL key) W h yY (V4b dn key Hx));have HU:=zW (fun (lv:Value) (w':World) (h:BlD w.heap.size g data (Z2 (Y0 dn).1).length lv (G9 (Y0 dn).1) w')=>(X3a ((X4 dn).length+key.length+1) ((X4 dn).length+key.length+1+(Q2 ts).length) (ofL key) h hH yY yY yY yY).mono fun _ _ ⟨h1,lv',h2,h3,_⟩=>show (∃ v,_=Ending.returned v)∧∃ lv',BlD w.heap.size g data ((X4 dn).length+key.length+1+(Q2 ts).length) lv' _ _∧Below w.heap.size w' _ from ⟨h1,lv',h2,h3⟩);rw [Ht,Hd,show (⟨#[]⟩:ByteArray)=ofL [] from rfl,←Q1n (Y0 dn).1 ⟨(Y0 dn).2++(key++[61]),key,ts⟩] at HU;have hD:yK (Y0 (dn++[.unit key ts])=((Y0 dn).1++[⟨(Y0 dn).2++(key++[61]),key,ts⟩],[10])):=(by show _=_;rw [Q5c];rfl);have hQ:yK ((Z2 (Y0 (dn++[.unit key ts])).1).length=(X4 dn).length+key.length+1+(Q2 ts).length):=by
       show _=_;rw [hD.o,Q1o,hP];simp;omega
      have Hk:=zW (fun (j:Nat) (h:j < key.length)=>show ∃ h2:j < (key++(61::(Q2 ts++10::X4 td))).length,Q0p ((key++(61::(Q2 ts++10::X4 td)))[j])=true from ⟨by simp;omega,by rw [List.getElem_append_left h];exact Hw _ (List.getElem_mem h)⟩);have hY:yK (∃ h2:key.length < (key++(61::(Q2 ts++10::X4 td))).length,(key++(61::(Q2 ts++10::X4 td)))[key.length]=61):=⟨by simp,by rw [List.getElem_append_right yQ];simp⟩;have HR:=Hk.o 0 ib;have hf:yK ((((X4 dn).length+key.length+1+(Q2 ts).length:Nat):Int)+1=((X4 (dn++[.unit key ts])).length:Nat)):=(by show _=_;have:=hi.o;omega);clear hi hr hp Hz HA hO Hw hh Hi Hh hu hn Hc hP Ht hH Hx ie hM;have He:=Hd;clear Hd;generalize key++(61::(Q2 ts++10::X4 td))=L at *;generalize ofL (Q2 ts)=u3 at *;generalize hks:ofL key=kb at *;generalize key.length=n at *;generalize (X4 dn).length=q at *;generalize (Q2 ts).length=le at *;clear hks;obtain ⟨qn,hv⟩:∃ qn,yK (qn=q+n):=⟨_,rfl⟩;rw [←hv.o] at hB HU hQ hf HS;obtain ⟨q2,hU⟩:∃ q2,yK (q2=qn+1+le):=⟨_,rfl⟩;rw [←hU.o] at hB HU hQ hf;have Hf:q+1≤qn:=(by have:=hv.o;omega);have ir:qn+1≤q2:=(by have:=hU.o;omega);have ht:q2+1≤data.size:=(by have:=hv.o;have:=hU.o;omega);have it:qn≤q+64:=(by have:=hv.o;omega);have HL:yK (((qn+1:Nat):Int)=(qn:Int)+1):=rfl;rw [HL.o] at hB HU;have iq:data.extract (qn+1) q2=u3:=(by rw [hU.o,hv.o];exact He);obtain ⟨Hq,Hr⟩:=HR;have ik:q < data.size:=yY;have hF:=hw.o 0 q Hq rfl ik;have hJ:=Z2h _ Hr;rw [←hF] at hJ;obtain ⟨z10,z32,z9,z35,_⟩:=hJ;have n32:((data[q].toNat:Int)==32)=false:=X8 _ 32 z32;have n9:((data[q].toNat:Int)==9)=false:=X8 _ 9 z9;have n10:((data[q].toNat:Int)==10)=false:=X8 _ 10 z10;have n35:((data[q].toNat:Int)==35)=false:=X8 _ 35 z35;have il:¬ (data.size:Int)≤(q:Int):=yY;clear hF Hr z10 z32 z9 z35 Hq;obtain ⟨wo,hz⟩:∃ wo,yK (wo=wr):=⟨wr,rfl⟩;go_wp2_with fail
      go_loopg [7] 1 (fun gz kv wz=>kv=.int .i64 (q:Nat)∧yK (wz=wo)∧1≤gz)
      case atStart=>exact ⟨rfl,hz.o.symm,yQ⟩
      case round=>
       obtain ⟨rfl,HM,ia⟩:=hrel;go_wp2_with fail
       try rw [show decide (data.size≤q)=false from decide_eq_false yY]
       go_loopg [7] (n+1) (fun gz kv wz=>∃ j:Nat,kv=.int .i64 (q+j:Nat)∧j≤n∧yK (wz=wo)∧n+1 - j≤gz)
       case atStart=>exact ⟨0,rfl,Nat.zero_le _,HM.o,yQ⟩
       case round=>
        obtain ⟨j,rfl,hj,HW,HY⟩:=hrel;obtain ⟨p,hb⟩:∃ p,p=q+j:=⟨_,rfl⟩;rw [←hb];have hN:p < data.size:=(by have:=hv.o;omega);have ii:(p:Int) < (data.size:Int):=yY;by_cases hjz:j < n
        ·obtain ⟨Hg,hc⟩:=Hk.o j hjz;have ha:=hw.o j p Hg hb hN;have CK:=zW (fun W=>Y0j data[p] W);rw [ha,hc,←ha] at CK;have hT:yK ((p:Int)+1=((q+(j+1):Nat):Int)):=(by show _=_;omega);have ih:(p:Int) < (q:Int)+64:=(by have:=hv.o;omega);clear ha hc hb;go_wp2_with (go_at_call 195;refine (CK.o _).mono ?_;rintro e w' ⟨rfl,rfl⟩)
         rw [hT.o];go_roundg (n - j)
         case measure=>omega
         case rel=>exact ⟨j+1,rfl,hjz,HW.o,yY⟩
        ·obtain rfl:j=n:=yY;obtain ⟨hE,Hs⟩:=hY.o;have ha:=(hw.o j p hE hb hN).trans Hs;have ij:p=qn:=hb.trans hv.o.symm;subst ij;have n61:((data[p].toNat:Int) != 61)=false:=(by rw [ha];rfl);have CK:=zW (fun W=>Y0j data[p] W);rw [show Q0p data[p]=false by rw [ha];decide] at CK;have iu:((p:Int)==(q:Int))=false:=(by rw [beq_eq_false_iff_ne];omega);have HV:¬ (data.size:Int)≤(p:Int):=yY;have hA:wr=wo:=HW.o;have hs:yK (BlD w.heap.size g data (Z2 (Y0 dn).1).length lv (G9 (Y0 dn).1) wr):=(by show BlD _ _ _ _ _ _ _;rw [hA,hz.o];exact HP.o);have hy:yK (Below w.heap.size w wr):=(by show Below _ _ _;rw [hA,hz.o];exact HB.o);clear hA ha hE Hs hb;obtain ⟨A0,c0,ig⟩:=Q0 hs.o.own;subst ig;obtain ⟨x0,x1,x2,_⟩:=bx3 hs.o.box;have Hn:=zW (OwnE.rd K0 hs.o.own);by_cases h64:(p:Int) < (q:Int)+64
         ·go_wp2_with (first
           | (go_at_call 195;refine (CK.o _).mono ?_;rintro e w' ⟨rfl,rfl⟩)
           | (go_at_call 196;refine (HH.o _ _ _ (by exact Hn.o)).mono ?_;rintro e w' ⟨rfl,rfl⟩)
           | (go_at_call 194;refine (hB.o _).mono ?_;rintro e w' ⟨rfl,rfl⟩)
           | (go_at_call 20;refine (Hj.o _).mono ?_;rintro e w3 ⟨v3,vc3,rfl,hK,hm,ht⟩;obtain ⟨A3,c3,rfl⟩:=Q0 hK;obtain ⟨A4,c4,rfl⟩:=Q0 hm;have Ha:=zW (hs.o.below ht);have hW:=zW (hy.o.trans (ht.mono hy.o.size));clear hK hm ht)
           | (go_at_call 192;refine (HU.o _ _ (by exact Ha.o)).mono ?_;rintro e w5 ⟨⟨v5,rfl⟩,lv5,hL,hG⟩;have Hb:=zW hL;have hX:=zW (hW.o.trans hG);clear hL hG))
          rw [hf.o];go_roundg td.length
          case measure=>omega
          case rel=>
           refine ⟨dn++[RL.unit key ts],td,hS.o,rfl,⟨lv5,?_⟩,hX.o,yQ⟩;rw [hQ.o,hD.o];exact Hb.o
         ·go_wp2_with (first
           | (go_at_call 195;refine (CK.o _).mono ?_;rintro e w' ⟨rfl,rfl⟩)
           | (go_at_call 196;refine (HH.o _ _ _ (by exact Hn.o)).mono ?_;rintro e w' ⟨rfl,rfl⟩)
           | (go_at_call 194;refine (hB.o _).mono ?_;rintro e w' ⟨rfl,rfl⟩)
           | (go_at_call 20;refine (Hj.o _).mono ?_;rintro e w3 ⟨v3,vc3,rfl,hK,hm,ht⟩;obtain ⟨A3,c3,rfl⟩:=Q0 hK;obtain ⟨A4,c4,rfl⟩:=Q0 hm;have Ha:=zW (hs.o.below ht);have hW:=zW (hy.o.trans (ht.mono hy.o.size));clear hK hm ht)
           | (go_at_call 192;refine (HU.o _ _ (by exact Ha.o)).mono ?_;rintro e w5 ⟨⟨v5,rfl⟩,lv5,hL,hG⟩;have Hb:=zW hL;have hX:=zW (hW.o.trans hG);clear hL hG))
          rw [hf.o];go_roundg td.length
          case measure=>omega
          case rel=>
           refine ⟨dn++[RL.unit key ts],td,hS.o,rfl,⟨lv5,?_⟩,hX.o,yQ⟩;rw [hQ.o,hD.o];exact Hb.o
theorem X9t (P S:List UInt8) (fs:List Fd) (hS:Q8n S) (i:Nat) (h:i < fs.length):∃ s,P++(J1 fs++S)=(P++pjC (fs.take i))++(fs[i].raw++s)∧FdEnd s∧((i+1 < fs.length∧∃ q,s=44::q)∨(i+1=fs.length∧s=S∧(pjC (fs.take i)).length+fs[i].raw.length=(J1 fs).length)):=by
 have hd:fs.drop i=fs[i]::fs.drop (i+1):=List.drop_eq_getElem_cons h;have hj:J1 fs=pjC (fs.take i)++J1 (fs.drop i):=by
  have:=Q1k (fs.take i) (fs.drop i) (by rw [hd];exact List.cons_ne_nil _ _);rwa [List.take_append_drop] at this
 by_cases hl:i+1 < fs.length
 ·have hb:fs.drop (i+1)≠[]:=by
   intro e;have:=congrArg List.length e;rw [List.length_drop] at this;simp at this;omega
  refine ⟨44::(J1 (fs.drop (i+1))++S),?_,.inr ⟨44,_,rfl,.inl rfl⟩,.inl ⟨hl,_,rfl⟩⟩;rw [hj,hd,Q2b _ _ hb];simp
 ·have ha:fs.drop (i+1)=[]:=List.drop_of_length_le yY;rw [ha] at hd;refine ⟨S,?_,?_,.inr ⟨yY,rfl,?_⟩⟩
  ·rw [hj,hd];simp [J1]
  ·rcases hS with h | ⟨q,h⟩
   ·exact .inl h
   ·exact .inr ⟨10,q,h,.inr rfl⟩
  ·rw [hj,hd,List.length_append];rfl
theorem Z2u (fs:List Fd) (i:Nat) (h:i < fs.length):(pjC (fs.take (i+1))).length=(pjC (fs.take i)).length+fs[i].raw.length+1:=by
 rw [List.take_succ_eq_append_getElem h,X6w];simp;omega
theorem Y6z (data:ByteArray) (a b:List Fl) (rs:List Rc) (w:World) (hd:data.data.toList=U1 a b rs)
 (ha:∀ f∈a,Q5m f∧Q3u f≠P8) (hb:∀ f∈b,Q5m f∧Q3u f≠P8) (hrs:∀ r∈rs,RcF a b r) (hE:∀ i r,rs[i]? =some r→r.key=Lib.decDigits (i+1)) (iu:rs.length≤8) (hal:a.length+1+b.length≤90) (hsz:data.size≤65536):
 Calls Tryz.prog 170 #[.string data] w (K4 (B8 (Z4 a b rs).1 (Z4 a b rs).2) w):=by
 obtain ⟨R,iA⟩:∃ R:Ending→World→Prop,yK (R=K4 (B8 (Z4 a b rs).1 (Z4 a b rs).2) w):=⟨_,rfl⟩;rw [←iA.o];have HD:=zW hd;have HA:=zW ha;have ix:=zW hb;have iQ:=zW hrs;have HT:=zW hE;have HY:yK (BlD w.heap.size w.heap.size data 0 (.slice none 0 0) [] (w.alloc (.cells #[.string data,.slice none 0 0,.int .i64 0] 269))):=⟨Array.getElem?_push_size,OwnE.nil,yQ⟩;have HL:=zW ((Below.refl w.heap.size w).alloc yQ (.cells #[.string data,.slice none 0 0,.int .i64 0] 269));obtain ⟨g,hg⟩:∃ g,yK (g=w.heap.size):=⟨_,rfl⟩;clear hd ha hb hrs hE;go_enter Tryz.func170,Tryz.ntmps170
 go_wp2_with fail
 generalize w.alloc (.cells #[.string data,.slice none 0 0,.int .i64 0] 269)=w0 at HY HL ⊢;have Hl:yK (BlD w.heap.size g data 0 (.slice none 0 0) [] w0):=(by show BlD _ _ _ _ _ _ _;rw [hg.o];exact HY.o);rw [←hg.o];go_loopg [6,7,8,9] (rs.length+2) (fun gk av wv cv rv wr=>∃ (k at_ wd:Nat) (cl:Int),rv=.int .i64 (k:Nat)∧av=.int .i64 (at_:Nat)∧wv=.int .i64 (wd:Nat)∧cv=.int .i64 cl∧k≤rs.length+1∧yK ((k=0∧at_=0∧wd=0∧cl=-1)∨(∃ k',k=k'+1∧at_=(U1 a b (rs.take k')).length+1∧wd=a.length+1+b.length∧cl=(a.length:Int)))∧(∃ lv,yK (BlD w.heap.size g data (Z2 (Z4 a b (rs.take (k - 1))).1).length lv (G9 (Z4 a b (rs.take (k - 1))).1) wr))∧yK (Below w.heap.size w wr)∧rs.length+2 - k≤gk)
 case atStart=>exact ⟨0,0,0,-1,rfl,rfl,rfl,rfl,Nat.zero_le _,.inl ⟨rfl,rfl,rfl,rfl⟩,⟨_,Hl.o⟩,HL.o,yQ⟩
 case round=>
  obtain ⟨k,at_,wd,cl,rfl,rfl,rfl,rfl,hk,HJ,⟨lv,HP⟩,HB,hgk⟩:=hrel;clear HY HL Hl;rcases HJ.o with ⟨iG,hat0,hwd0,hcl0⟩ | ⟨k',rfl,rfl,rfl,rfl⟩
  ·subst iG hat0 hwd0 hcl0;have Hv:=Y4v a b;have hs:data.data.toList=[]++(J1 (Q5l a b)++N4 rs []):=(by rw [HD.o,X0g,List.nil_append];simp [U1,N4]);have Hb:Q8n (N4 rs []):=Q4y rs [] (.inl rfl);have hC:(J1 (Q5l a b)).length+(N4 rs []).length=data.size:=(by rw [Lib.size_eq,hs];simp);have HW:=zW (Z2e a b (fun f h=>(HA.o f h).1) (fun f h=>(ix.o f h).1));have hI:=zW (Z2d a b);have iN:=zW (X5x a b (fun f h=>(HA.o f h).2) (fun f h=>(ix.o f h).2));have iB:=zW (X0g a b);have ig:=zW (fun i h=>X9t [] (N4 rs []) (Q5l a b) Hb i h);have HN:=zW hs;have ia:=zW (fun i h=>Z2u (Q5l a b) i h);have Hr:=zW Hb;have HQ:=zW hC;have iv:a.length < (Q5l a b).length:=yY;clear hs Hb hC HJ;generalize Q5l a b=fs at *;generalize htk:a.length=tcol at *;go_wp2_with fail
   go_loopg [6,8,11,12] fs.length (fun gi av cv nv tv wz=>∃ (i tx:Nat) (cl:Int),nv=.int .i64 (i:Nat)∧av=.int .i64 ((pjC (fs.take i)).length:Nat)∧tv=.int .i64 (tx:Nat)∧cv=.int .i64 cl∧i < fs.length∧yK ((i≤tcol∧tx=0∧cl=-1)∨(tcol < i∧tx=1∧cl=(tcol:Int)))∧(∃ lv,yK (BlD w.heap.size g data 0 lv [] wz))∧yK (Below w.heap.size w wz)∧fs.length - i≤gi)
   case atStart=>exact ⟨0,0,-1,rfl,rfl,rfl,rfl,yY,.inl ⟨Nat.zero_le _,rfl,rfl⟩,⟨lv,HP.o⟩,HB.o,yQ⟩
   case round=>
    clear HP HB;obtain ⟨i,tx,cl,rfl,rfl,rfl,rfl,hH,hJ,⟨lv,HP⟩,HB,iU⟩:=hrel;obtain ⟨s,HE,HF,Hf⟩:=ig.o i hH;have Hx:=HW.o _ (List.getElem_mem hH);have hv:data.data.toList=([]++pjC (fs.take i))++(fs[i].raw++s):=(by rw [HN.o,HE]);have CF:=zW (fun W=>Z2b data ([]++pjC (fs.take i)) s fs[i] W hv Hx HF hsz);rw [List.nil_append] at CF hv;have hX:data.extract (pjC (fs.take i)).length ((pjC (fs.take i)).length+fs[i].raw.length)=ofL fs[i].raw:=N9 data _ _ s _ (by rw [hv];simp) rfl;have hK:(pjC (fs.take i)).length+fs[i].raw.length+s.length=data.size:=(by rw [Lib.size_eq,hv];simp;omega);have hw:=ia.o i hH;have ih:yK (i=tcol→fs[i].raw=P8):=fun e=>by
     subst e;have:=hI.o;rw [List.getElem?_eq_getElem hH] at this;injection this with this;rw [this];rfl
    have HV:yK (i≠tcol→fs[i].raw≠P8):=fun e=>iN.o i fs[i] (List.getElem?_eq_getElem hH) e;have hh:=zW (fun (c:UInt8) (q:List UInt8) (e:s=c::q) (p:Nat) (hp:p=(pjC (fs.take i)).length+fs[i].raw.length) (h2:p < data.size)=>show data[p]=c by
     have:=L2 data (pjC (fs.take i)++fs[i].raw) s (by rw [hv];simp) 0 p (by rw [e];simp) (by rw [hp];simp) h2;rw [this];simp [e])
    clear Hx hv HE;generalize hG:fs[i].raw=raw at *;generalize fs[i].quo=quo at *;obtain ⟨p,hp⟩:∃ p,p=(pjC (fs.take i)).length:=⟨_,rfl⟩;rw [←hp] at CF hX hK hw hh Hf ⊢;obtain ⟨p2,hV⟩:∃ p2,p2=p+raw.length:=⟨_,rfl⟩;rw [←hV] at CF hX hK hw hh;have jc:p≤p2:=yY;have iq:p2≤data.size:=yY;have hz:=HB.o.size;have hm:=zW Hf;have hu:=zW hK;have hM:=zW hV;have hw:=zW hw;have HX:=zW hX;have Hm:=zW hp;clear Hf hK hV hp HF;by_cases hit:i=tcol
    ·have Ha:=ih.o hit;subst hit;rcases hJ.o with ⟨_,iw,im⟩ | ⟨h,_,_⟩
     ·subst iw im;have ht:((ofL raw).toList==[116,101,120,116])=true:=(by rw [B9,Ha];rfl);clear Ha ih HV hJ hG;rcases hm.o with ⟨hl1,q,hq⟩ | ⟨hl1,hq,hjl⟩
      ·have hf:p2 < data.size:=(by have:=hu.o;rw [hq] at this;simp at this;omega);have hD:¬ (data.size:Int)≤(p2:Int):=yY;have hc:=hh.o 44 q hq p2 rfl hf;have n10:((data[p2].toNat:Int)==10)=false:=(by rw [hc];rfl);have HS:yK ((p2:Int)+1=((pjC (fs.take (i+1))).length:Nat)):=(by show _=_;have:=hw.o;omega);clear hc hq hm;go_wp2_with (go_at_call 197;refine (CF.o _).mono ?_;rintro e w2 ⟨rfl,he⟩;have hj:=zW (HP.o.below he);have hi:=zW (HB.o.trans (he.mono hz));clear he)
       rw [HS.o];go_roundg (fs.length - (i+1))
       case measure=>omega
       case rel=>exact ⟨i+1,1,(i:Int),rfl,rfl,rfl,rfl,hl1,.inr ⟨yY,rfl,rfl⟩,⟨lv,hj.o⟩,hi.o,yQ⟩
      ·have hl:yK ((p2:Int)+1=((((U1 a b (rs.take 0)).length+1:Nat):Nat):Int)):=by
        show _=_;have h1:(U1 a b (rs.take 0)).length=(J1 fs).length:=(by rw [iB.o];simp [U1]);have:=hM.o;rw [h1];omega
       have Hj:yK ((i:Int)+1=((i+1+b.length:Nat):Int)):=(by show _=_;omega);rcases Hr.o with hS | ⟨q,hS⟩
       ·have hD:(data.size:Int)≤(p2:Int):=(by have:=hu.o;rw [hq,hS] at this;simp at this;omega);clear hq hm hS hjl;go_wp2_with (go_at_call 197;refine (CF.o _).mono ?_;rintro e w2 ⟨rfl,he⟩;have hj:=zW (HP.o.below he);have hi:=zW (HB.o.trans (he.mono hz));clear he)
        rw [hl.o,Hj.o];go_roundg (rs.length+1)
        case measure=>omega
        case rel=>exact ⟨1,_,_,_,rfl,rfl,rfl,rfl,yY,.inr ⟨0,rfl,rfl,rfl,rfl⟩,⟨lv,hj.o⟩,hi.o,yY⟩
       ·have hf:p2 < data.size:=(by have:=hu.o;rw [hq,hS] at this;simp at this;omega);have hD:¬ (data.size:Int)≤(p2:Int):=yY;have hc:=hh.o 10 q (hq.trans hS) p2 rfl hf;have n10:((data[p2].toNat:Int)==10)=true:=(by rw [hc];rfl);clear hc hq hm hS hjl;go_wp2_with (go_at_call 197;refine (CF.o _).mono ?_;rintro e w2 ⟨rfl,he⟩;have hj:=zW (HP.o.below he);have hi:=zW (HB.o.trans (he.mono hz));clear he)
        rw [hl.o,Hj.o];go_roundg (rs.length+1)
        case measure=>omega
        case rel=>exact ⟨1,_,_,_,rfl,rfl,rfl,rfl,yY,.inr ⟨0,rfl,rfl,rfl,rfl⟩,⟨lv,hj.o⟩,hi.o,yY⟩
     ·omega
    ·have Ha:=HV.o hit;have ht:((ofL raw).toList==[116,101,120,116])=false:=(by rw [B9,beq_eq_false_iff_ne];exact Ha);clear Ha ih HV hG;rcases hm.o with ⟨hl1,q,hq⟩ | ⟨hl1,hq,hjl⟩
     ·have hf:p2 < data.size:=(by have:=hu.o;rw [hq] at this;simp at this;omega);have hD:¬ (data.size:Int)≤(p2:Int):=yY;have hc:=hh.o 44 q hq p2 rfl hf;have n10:((data[p2].toNat:Int)==10)=false:=(by rw [hc];rfl);have HS:yK ((p2:Int)+1=((pjC (fs.take (i+1))).length:Nat)):=(by show _=_;have:=hw.o;omega);clear hc hq hm;go_wp2_with (go_at_call 197;refine (CF.o _).mono ?_;rintro e w2 ⟨rfl,he⟩;have hj:=zW (HP.o.below he);have hi:=zW (HB.o.trans (he.mono hz));clear he)
      rw [HS.o];go_roundg (fs.length - (i+1))
      case measure=>omega
      case rel=>exact ⟨i+1,tx,cl,rfl,rfl,rfl,rfl,hl1,by (rcases hJ.o with ⟨h,h2,h3⟩ | ⟨h,h2,h3⟩);exact .inl ⟨yY,h2,h3⟩;exact .inr ⟨yY,h2,h3⟩,⟨lv,hj.o⟩,hi.o,yQ⟩
     ·have hl:yK ((p2:Int)+1=((((U1 a b (rs.take 0)).length+1:Nat):Nat):Int)):=by
       show _=_;have h1:(U1 a b (rs.take 0)).length=(J1 fs).length:=(by rw [iB.o];simp [U1]);have:=hM.o;rw [h1];omega
      have Hj:yK ((i:Int)+1=((tcol+1+b.length:Nat):Int)):=(by show _=_;omega);obtain ⟨iw,im⟩:tx=1∧cl=(tcol:Int):=by
       rcases hJ.o with ⟨h,_,_⟩ | ⟨_,h2,h3⟩
       ·omega
       ·exact ⟨h2,h3⟩
      subst iw im;rcases Hr.o with hS | ⟨q,hS⟩
      ·have hD:(data.size:Int)≤(p2:Int):=(by have:=hu.o;rw [hq,hS] at this;simp at this;omega);clear hq hm hS hjl;go_wp2_with (go_at_call 197;refine (CF.o _).mono ?_;rintro e w2 ⟨rfl,he⟩;have hj:=zW (HP.o.below he);have hi:=zW (HB.o.trans (he.mono hz));clear he)
       rw [hl.o,Hj.o];go_roundg (rs.length+1)
       case measure=>omega
       case rel=>exact ⟨1,_,_,_,rfl,rfl,rfl,rfl,yY,.inr ⟨0,rfl,rfl,rfl,rfl⟩,⟨lv,hj.o⟩,hi.o,yY⟩
      ·have hf:p2 < data.size:=(by have:=hu.o;rw [hq,hS] at this;simp at this;omega);have hD:¬ (data.size:Int)≤(p2:Int):=yY;have hc:=hh.o 10 q (hq.trans hS) p2 rfl hf;have n10:((data[p2].toNat:Int)==10)=true:=(by rw [hc];rfl);clear hc hq hm hS hjl;go_wp2_with (go_at_call 197;refine (CF.o _).mono ?_;rintro e w2 ⟨rfl,he⟩;have hj:=zW (HP.o.below he);have hi:=zW (HB.o.trans (he.mono hz));clear he)
       rw [hl.o,Hj.o];go_roundg (rs.length+1)
       case measure=>omega
       case rel=>exact ⟨1,_,_,_,rfl,rfl,rfl,rfl,yY,.inr ⟨0,rfl,rfl,rfl,rfl⟩,⟨lv,hj.o⟩,hi.o,yY⟩
  ·rw [Nat.add_sub_cancel] at HP;by_cases hlt:k' < rs.length
   ·clear HJ;have hr:=List.getElem_mem hlt;have hF:=iQ.o _ hr;have hE:=HT.o k' rs[k'] (List.getElem?_eq_getElem hlt);have iJ:rs=rs.take k'++rs[k']::rs.drop (k'+1):=(by rw [←List.drop_eq_getElem_cons hlt,List.take_append_drop]);have Hc:rs.take (k'+1)=rs.take k'++[rs[k']]:=List.take_succ_eq_append_getElem hlt;have hs:data.data.toList=(U1 a b (rs.take k')++[10])++(J1 (Q0b rs[k'])++N4 (rs.drop (k'+1)) []):=by
     have h1:=Q3v a b (rs.take k') (rs[k']::rs.drop (k'+1)) [];rw [←iJ,List.append_nil,Q2y] at h1;rw [HD.o,h1,Q3x];simp
    have Hb:Q8n (N4 (rs.drop (k'+1)) []):=Q4y _ [] (.inl rfl);have Hv:(Q0b rs[k']).length=a.length+1+b.length:=(by rw [Y6h,hF.pre,hF.post]);have HW:=zW (Z3c rs[k'] hF.okA hF.okB hF.raw.els);have hI:=zW (Z3b rs[k']);rw [hF.pre] at hI;have HK:=zW (Y6g rs[k'] a.length hF.pre);have Hk:yK ((U1 a b (rs.take (k'+1))).length=(U1 a b (rs.take k')).length+1+(J1 (Q0b rs[k'])).length):=(by show _=_;rw [Hc,Q9a,Q3x];simp;omega);have ii:yK (Z4 a b (rs.take (k'+1))=P2 (Z4 a b (rs.take k')) rs[k']):=(by show _=_;rw [Hc,X8a]);have jf:(Z4 a b (rs.take k')).1.length≤8:=(by rw [Q1r];have:=List.length_take_le k' rs;omega);have iC:=Q0v a b (rs.take k');have Hz:=hF.raw;generalize rs[k']=r at *;generalize N4 (rs.drop (k'+1)) []=S at *;have HN:=zW hs;have hy:=zW iC;have Hr:=zW Hb;have ie:=zW Hz;have iM:=zW hE;have ig:=zW (fun i h=>X9t (U1 a b (rs.take k')++[10]) S (Q0b r) Hb i h);have ia:=zW (fun i h=>Z2u (Q0b r) i h);have ik:(U1 a b (rs.take k')++[(10:UInt8)]).length=(U1 a b (rs.take k')).length+1:=yW;have hC:(U1 a b (rs.take k')).length+1+(J1 (Q0b r)).length+S.length=data.size:=(by rw [Lib.size_eq,hs];simp;omega);have HQ:=zW hC;have Hi:=zW Hv;have iv:a.length < (Q0b r).length:=yY;have it:=P6 (Z4 a b (rs.take k')).1;have ir:(G9 (Z4 a b (rs.take k')).1).length≤100:=yY;have Hu:(U1 a b (rs.take k')).length+1≤data.size:=yY;have jj:(((k'+1:Nat):Int)==0)=false:=(by rw [beq_eq_false_iff_ne];omega);have iY:((k':Int)+1==0)=false:=(by rw [beq_eq_false_iff_ne];omega);have ji:(0:Int) < ((k'+1:Nat):Int):=yY;have iX:(0:Int) < (k':Int)+1:=yY;have Ht:((U1 a b (rs.take k')).length:Int)+1 < (data.size:Int):=by
     have h1:0 < (J1 (Q0b r)).length:=(by rw [Q3x];simp [Q6l];omega);omega
    clear hs Hb hC hF iJ Hc it jf iC Hz hE hr;generalize hP:U1 a b (rs.take k')++[(10:UInt8)]=P at *;have HI:=zW hP;clear hP;rw [←ik] at HQ Hu Hk ⊢;rw [Hv] at iv;have hW:((a.length+1+b.length:Nat):Int)=(((Q0b r).length:Nat):Int):=yY;rw [←Hv] at iv ⊢;generalize Q0b r=fs at *;generalize htk:a.length=tcol at *;clear hW Hv;have ib:=zW ik;have hT:((P.length:Nat):Int) < (data.size:Int):=yY;clear ik Ht;obtain ⟨U0,iS⟩:∃ U0,yK (Z4 a b (rs.take k')=U0):=⟨_,rfl⟩;rw [iS.o] at HP ii hy ir;obtain ⟨Z,hZ⟩:∃ Z,yK (rs.take (k'+1)=Z):=⟨_,rfl⟩;rw [hZ.o] at ii Hk;obtain ⟨P0,ij⟩:∃ P0,P0=P.length:=⟨_,rfl⟩;rw [←ij] at HQ Hu Hk ib hT ⊢;have hR:=zW ij;clear ij;go_wp2_with fail
    go_loopg [6,8,11,12] fs.length (fun gi av cv nv tv wz=>∃ (i fr:Nat) (lv:Value) (ps:List Pt),nv=.int .i64 (i:Nat)∧cv=.int .i64 (tcol:Int)∧tv=.int .i64 0∧av=.int .i64 (P0+(pjC (fs.take i)).length:Nat)∧i < fs.length∧yK ((i≤tcol∧fr=(Z2 U0.1).length∧ps=G9 U0.1)∨(tcol < i∧fr=(Z2 (Z4 a b Z).1).length∧ps=G9 (Z4 a b Z).1))∧yK (BlD w.heap.size g data fr lv ps wz)∧yK (Below w.heap.size w wz)∧fs.length - i≤gi)
    case atStart=>exact ⟨0,_,lv,_,rfl,rfl,rfl,rfl,yY,.inl ⟨Nat.zero_le _,rfl,rfl⟩,HP.o,HB.o,yQ⟩
    case round=>
     clear HP HB;obtain ⟨i,fr,lv,ps,rfl,rfl,rfl,rfl,hH,hJ,HP,HB,iU⟩:=hrel;obtain ⟨s,HE,HF,Hf⟩:=ig.o i hH;have Hx:=HW.o _ (List.getElem_mem hH);have hv:data.data.toList=(P++pjC (fs.take i))++(fs[i].raw++s):=(by rw [HN.o,←HE]);have CF:=zW (fun W=>Z2b data (P++pjC (fs.take i)) s fs[i] W hv Hx HF hsz);have Hd:(P++pjC (fs.take i)).length=P0+(pjC (fs.take i)).length:=(by rw [List.length_append,hR.o]);rw [Hd] at CF;have hK:P0+(pjC (fs.take i)).length+fs[i].raw.length+s.length=data.size:=(by rw [Lib.size_eq,hv];simp [hR.o];omega);have hw:=ia.o i hH;have hh:=zW (fun (c:UInt8) (q:List UInt8) (e:s=c::q) (p:Nat) (hp:p=P0+(pjC (fs.take i)).length+fs[i].raw.length) (h2:p < data.size)=>show data[p]=c by
      have:=L2 data (P++pjC (fs.take i)++fs[i].raw) s (by rw [hv];simp) 0 p (by rw [e];simp) (by rw [hp,hR.o];simp;omega) h2;rw [this];simp [e])
     have HR:yK (i=tcol→fs[i].raw=34::(Q2 r.ts++[34])∧fs[i].quo=true):=fun e=>by
      subst e;have:=hI.o;rw [List.getElem?_eq_getElem hH] at this;injection this with this;rw [this];exact ⟨rfl,rfl⟩
     have HG:=zW hv;have Hq:=zW Hd;clear Hx HE hv Hd;generalize hG:fs[i].raw=raw at *;generalize fs[i].quo=quo at *;clear hG;obtain ⟨p,hp⟩:∃ p,p=P0+(pjC (fs.take i)).length:=⟨_,rfl⟩;rw [←hp] at CF hK hh Hq ⊢;obtain ⟨p2,hV⟩:∃ p2,p2=p+raw.length:=⟨_,rfl⟩;rw [←hV] at CF hK hh;have jc:p≤p2:=yY;have iq:p2≤data.size:=yY;have hz:=HB.o.size;have hm:=zW Hf;have hu:=zW hK;have hM:=zW hV;have hw:=zW hw;have Hm:=zW hp;have jm:¬ ((fs.length:Nat):Int)≤(i:Int):=yY;have iV:i≤90:=(by have:=Hi.o;omega);clear Hf hK hV hp HF;by_cases hit:i=tcol
     ·obtain ⟨Ha,jd⟩:=HR.o hit;subst hit Ha jd;rcases hJ.o with ⟨_,hU,hY⟩ | ⟨h,_,_⟩
      ·subst hU hY;have iu:(34::(Q2 r.ts++[(34:UInt8)])).length=(Q2 r.ts).length+2:=yW;have ip:p2=p+((Q2 r.ts).length+2):=(by rw [hM.o,iu]);have iI:(Q2 r.ts).length≤65536:=yY;have He:(P++pjC (fs.take i)++[(34:UInt8)]).length=p+1:=(by rw [List.length_append,Hq.o];rfl);have il:data.extract (p+1) (p+1+(Q2 r.ts).length)=ofL (Q2 r.ts):=by
        have:=N9 data (P++pjC (fs.take i)++[34]) (Q2 r.ts) (34::s) (p+1+(Q2 r.ts).length) (by rw [HG.o];simp) (by rw [He]);rwa [He] at this
       have iD:data.extract (Z2 U0.1).length (p+1)=ofL (U0.2++(10::(F1 r.pre++[34]))):=
        N9 data (Z2 U0.1) (U0.2++(10::(F1 r.pre++[34]))) (Q2 r.ts++(34::s)) _ (by rw [HG.o,HK.o,←HI.o,hy.o];simp) (by rw [←He,HK.o,←HI.o,hy.o];simp)
       have hG:(Z2 U0.1).length≤p+1:=(by rw [←He,HK.o,←HI.o,hy.o];simp);obtain ⟨p3,iH⟩:∃ p3,p3=p+1+(Q2 r.ts).length:=⟨_,rfl⟩;have HM:=zW (fun W=>X7i 3 (.inr (.inr rfl)) (ofL (Q2 r.ts)) r.ts W ie.o (by simp [ofL]) (by rw [Q6];exact iI));have HH:=zW (fun w=>X7c (k'+1) yY yY w);rw [←iM.o] at HH;have HU:=zW (fun (lv:Value) (w':World) (h:BlD w.heap.size g data (Z2 U0.1).length lv (G9 U0.1) w')=>(X3a (p+1) (p+1+(Q2 r.ts).length) (ofL r.key) h hG yY yY yY yY).mono fun _ _ ⟨h1,lv',h2,h3,_⟩=>show (∃ v,_=Ending.returned v)∧∃ lv',BlD w.heap.size g data (p+1+(Q2 r.ts).length) lv' _ _∧Below w.heap.size w' _ from ⟨h1,lv',h2,h3⟩);rw [iD,il,show (⟨#[]⟩:ByteArray)=ofL [] from rfl,←Q1n U0.1 ⟨U0.2++(10::(F1 r.pre++[34])),r.key,r.ts⟩] at HU;have Hs:yK ((Z4 a b Z).1=U0.1++[⟨U0.2++(10::(F1 r.pre++[34])),r.key,r.ts⟩]):=(by show _=_;rw [ii.o];rfl);have iy:yK ((Z2 (Z4 a b Z).1).length=p+1+(Q2 r.ts).length):=by
        show _=_;rw [Hs.o,Q1o,←He,HK.o,←HI.o,hy.o];simp;omega
       rw [←iH] at HU iy il;have Hy:p2=p3+1:=yY;have iP:yK (((p2:Nat):Int) - 1=(p3:Int)):=(by show _=_;omega);have ja:p+1≤p3:=yY;have jb:p3≤data.size:=yY;have jg:(1:Int)≤(p2:Int):=yY;have ic:yK (((p+1:Nat):Int)=(p:Int)+1):=rfl;rw [ic.o] at HU;have iO:=zW Hy;clear iu ip iI He iD hG iH hJ HR HG;generalize ofL (Q2 r.ts)=u3 at *;generalize (34::(Q2 r.ts++[34])).length=rl at *;have iT:∀ x:Nat,(x:Int)=(p2:Int) - 1→data.extract (p+1) x=u3:=fun x hx=>by
        have:x=p3:=yY;rw [this];exact il
       subst Hy;have je:((p3+1:Nat):Int) - 1=(p3:Int):=yY;have iK:((p3:Int)+1) - 1=(p3:Int):=yY;clear iT;have HZ:yK (∀ W lv',BlD w.heap.size g data p3 lv' (G9 (U0.1++[⟨U0.2++(10::(F1 r.pre++[34])),r.key,r.ts⟩])) W→BlD w.heap.size g data (Z2 (Z4 a b Z).1).length lv' (G9 (Z4 a b Z).1) W):=fun W lv' h=>by rw [iy.o,Hs.o];exact h
       rcases hm.o with ⟨hl1,q,hq⟩ | ⟨hl1,hq,hjl⟩
       ·have hf:(p3+1) < data.size:=(by have:=hu.o;rw [hq] at this;simp at this;omega);have hD:¬ (data.size:Int)≤(((p3+1):Nat):Int):=yY;have Hw:¬ (data.size:Int)≤(p3:Int)+1:=yY;have hc:=hh.o 44 q hq (p3+1) rfl hf;have n10:((data[(p3+1)].toNat:Int)==10)=false:=(by rw [hc];rfl);have HS:yK ((p3:Int)+1+1=((P0+(pjC (fs.take (i+1))).length:Nat):Int)):=(by show _=_;have:=hw.o;have:=Hm.o;have:=hM.o;omega);clear hc hq hm;go_wp2_with (first
         | (go_at_call 197;refine (CF.o _).mono ?_;rintro e w2 ⟨rfl,he⟩;have hj:=zW (HP.o.below he);have hi:=zW (HB.o.trans (he.mono hz));clear he)
         | (go_at_call 20;refine (HM.o _).mono ?_;rintro e w3 ⟨v3,vc3,rfl,hO,hn,hA⟩;obtain ⟨A3,c3,rfl⟩:=Q0 hO;obtain ⟨A4,c4,rfl⟩:=Q0 hn;have Hn:=zW (hj.o.below hA);have hL:=zW (hi.o.trans (hA.mono hi.o.size));clear hO hn hA)
         | (go_at_call 134;refine (HH.o _).mono ?_;rintro e w4 ⟨rfl,hB⟩;have Ho:=zW (Hn.o.below hB);have Hg:=zW (hL.o.trans (hB.mono hL.o.size));clear hB)
         | (go_at_call 192;refine (HU.o _ _ (by exact Ho.o)).mono ?_;rintro e w5 ⟨⟨v5,rfl⟩,lv5,hQ,hN⟩;have Hp:=zW hQ;have Hh:=zW (Hg.o.trans hN);clear hQ hN))
        rw [HS.o];go_roundg (fs.length - (i+1))
        case measure=>omega
        case rel=>exact ⟨i+1,_,lv5,_,rfl,rfl,rfl,rfl,hl1,.inr ⟨yY,rfl,rfl⟩,HZ.o _ _ Hp.o,Hh.o,yQ⟩
       ·have hl:yK ((p3:Int)+1+1=(((U1 a b Z).length+1:Nat):Int)):=by
         show _=_;have:=Hk.o;have:=hM.o;have:=Hm.o;omega
        have iR:¬ (i:Int)+1 < ((fs.length:Nat):Int):=yY;rcases Hr.o with hS | ⟨q,hS⟩
        ·have hD:(data.size:Int)≤(((p3+1):Nat):Int):=(by have:=hu.o;rw [hq,hS] at this;simp at this;omega);have Hw:(data.size:Int)≤(p3:Int)+1:=yY;clear hq hm hS hjl;go_wp2_with (first
              | (go_at_call 197;refine (CF.o _).mono ?_;rintro e w2 ⟨rfl,he⟩;have hj:=zW (HP.o.below he);have hi:=zW (HB.o.trans (he.mono hz));clear he)
              | (go_at_call 20;refine (HM.o _).mono ?_;rintro e w3 ⟨v3,vc3,rfl,hO,hn,hA⟩;obtain ⟨A3,c3,rfl⟩:=Q0 hO;obtain ⟨A4,c4,rfl⟩:=Q0 hn;have Hn:=zW (hj.o.below hA);have hL:=zW (hi.o.trans (hA.mono hi.o.size));clear hO hn hA)
              | (go_at_call 134;refine (HH.o _).mono ?_;rintro e w4 ⟨rfl,hB⟩;have Ho:=zW (Hn.o.below hB);have Hg:=zW (hL.o.trans (hB.mono hL.o.size));clear hB)
              | (go_at_call 192;refine (HU.o _ _ (by exact Ho.o)).mono ?_;rintro e w5 ⟨⟨v5,rfl⟩,lv5,hQ,hN⟩;have Hp:=zW hQ;have Hh:=zW (Hg.o.trans hN);clear hQ hN))
         rw [hl.o];go_roundg (rs.length - k')
         case measure=>omega
         case rel=>exact ⟨k'+2,_,_,_,rfl,rfl,rfl,rfl,yY,.inr ⟨k'+1,rfl,by rw [hZ.o],Hi.o,rfl⟩,⟨lv5,by show BlD _ _ _ _ _ _ _;rw [show k'+2 - 1=k'+1 by omega,hZ.o];exact HZ.o _ _ Hp.o⟩,Hh.o,yY⟩
        ·have hf:(p3+1) < data.size:=(by have:=hu.o;rw [hq,hS] at this;simp at this;omega);have hD:¬ (data.size:Int)≤(((p3+1):Nat):Int):=yY;have Hw:¬ (data.size:Int)≤(p3:Int)+1:=yY;have hc:=hh.o 10 q (hq.trans hS) (p3+1) rfl hf;have n10:((data[(p3+1)].toNat:Int)==10)=true:=(by rw [hc];rfl);clear hc hq hm hS hjl;go_wp2_with (first
              | (go_at_call 197;refine (CF.o _).mono ?_;rintro e w2 ⟨rfl,he⟩;have hj:=zW (HP.o.below he);have hi:=zW (HB.o.trans (he.mono hz));clear he)
              | (go_at_call 20;refine (HM.o _).mono ?_;rintro e w3 ⟨v3,vc3,rfl,hO,hn,hA⟩;obtain ⟨A3,c3,rfl⟩:=Q0 hO;obtain ⟨A4,c4,rfl⟩:=Q0 hn;have Hn:=zW (hj.o.below hA);have hL:=zW (hi.o.trans (hA.mono hi.o.size));clear hO hn hA)
              | (go_at_call 134;refine (HH.o _).mono ?_;rintro e w4 ⟨rfl,hB⟩;have Ho:=zW (Hn.o.below hB);have Hg:=zW (hL.o.trans (hB.mono hL.o.size));clear hB)
              | (go_at_call 192;refine (HU.o _ _ (by exact Ho.o)).mono ?_;rintro e w5 ⟨⟨v5,rfl⟩,lv5,hQ,hN⟩;have Hp:=zW hQ;have Hh:=zW (Hg.o.trans hN);clear hQ hN))
         rw [hl.o];go_roundg (rs.length - k')
         case measure=>omega
         case rel=>exact ⟨k'+2,_,_,_,rfl,rfl,rfl,rfl,yY,.inr ⟨k'+1,rfl,by rw [hZ.o],Hi.o,rfl⟩,⟨lv5,by show BlD _ _ _ _ _ _ _;rw [show k'+2 - 1=k'+1 by omega,hZ.o];exact HZ.o _ _ Hp.o⟩,Hh.o,yY⟩
      ·omega
     ·have jk:((i:Int)==(tcol:Int))=false:=(by rw [beq_eq_false_iff_ne];omega);have iz:=zW hit;clear HR HG hit;rcases hm.o with ⟨hl1,q,hq⟩ | ⟨hl1,hq,hjl⟩
      ·have hf:p2 < data.size:=(by have:=hu.o;rw [hq] at this;simp at this;omega);have hD:¬ (data.size:Int)≤((p2:Nat):Int):=yY;have hc:=hh.o 44 q hq p2 rfl hf;have n10:((data[p2].toNat:Int)==10)=false:=(by rw [hc];rfl);have HS:yK ((p2:Int)+1=((P0+(pjC (fs.take (i+1))).length:Nat):Int)):=(by show _=_;have:=hw.o;have:=Hm.o;have:=hM.o;omega);clear hc hq hm;go_wp2_with (go_at_call 197;refine (CF.o _).mono ?_;rintro e w2 ⟨rfl,he⟩;have hj:=zW (HP.o.below he);have hi:=zW (HB.o.trans (he.mono hz));clear he)
       rw [HS.o];go_roundg (fs.length - (i+1))
       case measure=>omega
       case rel=>exact ⟨i+1,fr,lv,ps,rfl,rfl,rfl,rfl,hl1,by (rcases hJ.o with ⟨h,h2,h3⟩ | ⟨h,h2,h3⟩);exact .inl ⟨by have:=iz.o;omega,h2,h3⟩;exact .inr ⟨yY,h2,h3⟩,hj.o,hi.o,yQ⟩
      ·have hl:yK ((p2:Int)+1=(((U1 a b Z).length+1:Nat):Int)):=by
        show _=_;have:=Hk.o;have:=hM.o;have:=Hm.o;omega
       have iR:¬ (i:Int)+1 < ((fs.length:Nat):Int):=yY;obtain ⟨hU,hY⟩:fr=(Z2 (Z4 a b Z).1).length∧ps=G9 (Z4 a b Z).1:=by
        rcases hJ.o with ⟨h,_,_⟩ | ⟨_,h2,h3⟩
        ·have:=iz.o;omega
        ·exact ⟨h2,h3⟩
       subst hU hY;rcases Hr.o with hS | ⟨q,hS⟩
       ·have hD:(data.size:Int)≤((p2:Nat):Int):=(by have:=hu.o;rw [hq,hS] at this;simp at this;omega);clear hq hm hS hjl;go_wp2_with (go_at_call 197;refine (CF.o _).mono ?_;rintro e w2 ⟨rfl,he⟩;have hj:=zW (HP.o.below he);have hi:=zW (HB.o.trans (he.mono hz));clear he)
        rw [hl.o];go_roundg (rs.length - k')
        case measure=>omega
        case rel=>exact ⟨k'+2,_,_,_,rfl,rfl,rfl,rfl,yY,.inr ⟨k'+1,rfl,by rw [hZ.o],Hi.o,rfl⟩,⟨lv,by show BlD _ _ _ _ _ _ _;rw [show k'+2 - 1=k'+1 by omega,hZ.o];exact hj.o⟩,hi.o,yY⟩
       ·have hf:p2 < data.size:=(by have:=hu.o;rw [hq,hS] at this;simp at this;omega);have hD:¬ (data.size:Int)≤((p2:Nat):Int):=yY;have hc:=hh.o 10 q (hq.trans hS) p2 rfl hf;have n10:((data[p2].toNat:Int)==10)=true:=(by rw [hc];rfl);clear hc hq hm hS hjl;go_wp2_with (go_at_call 197;refine (CF.o _).mono ?_;rintro e w2 ⟨rfl,he⟩;have hj:=zW (HP.o.below he);have hi:=zW (HB.o.trans (he.mono hz));clear he)
        rw [hl.o];go_roundg (rs.length - k')
        case measure=>omega
        case rel=>exact ⟨k'+2,_,_,_,rfl,rfl,rfl,rfl,yY,.inr ⟨k'+1,rfl,by rw [hZ.o],Hi.o,rfl⟩,⟨lv,by show BlD _ _ _ _ _ _ _;rw [show k'+2 - 1=k'+1 by omega,hZ.o];exact hj.o⟩,hi.o,yY⟩
   ·have iW:k'=rs.length:=yY;subst iW;rw [List.take_length] at HP ⊢;have io:(U1 a b rs).length=data.size:=(by rw [Lib.size_eq,HD.o]);have Hd:=P6 (Z4 a b rs).1;have hG:(Z2 (Z4 a b rs).1).length≤data.size:=by
     rw [←io,Q0v,List.length_append];omega
    rw [Q1r] at Hd;have iF:data.extract (Z2 (Z4 a b rs).1).length data.size=ofL (Z4 a b rs).2:=P4 _ _ _ (by rw [HD.o,Q0v]);have HC:=zW (X5q HP.o hG yY yY);rw [iF,show (⟨#[]⟩:ByteArray)=ofL [] from rfl,←Q4u] at HC;have iG:(((rs.length+1:Nat):Int)==0)=false:=(by rw [beq_eq_false_iff_ne];omega);have jl:¬ ((data.size+1:Nat):Int) < (data.size:Int):=yY;have jh:((rs.length:Int)+1==0)=false:=(by rw [beq_eq_false_iff_ne];omega);have iZ:¬ (data.size:Int)+1 < (data.size:Int):=yY;clear iF hG Hd HJ;rw [io];clear io;go_wp2_with (go_at_call 193;refine (HC.o).mono ?_;rintro e w1 ⟨v,rfl,ho,iE⟩;have HO:=zW ho;have iL:=zW (HB.o.trans iE);obtain ⟨A,c,rfl⟩:=Q0 ho;clear ho iE)
    go_ret3
    rw [iA.o];exact ⟨_,rfl,HO.o,iL.o⟩
theorem V1e (data:ByteArray) (ps:List Pt) (w:World) (hsz:data.size≤65536) (h:Calls Tryz.prog 168 #[.string data] w (K4 ps w)):
 Calls Tryz.prog 132 #[.int .i64 1,.string data] w (K4 ps w):=by
 have HC:=zW h;have hz:¬ (65536:Int) < (data.size:Int):=yY;clear h;go_enter Tryz.func132,Tryz.ntmps132
 go_wp2_with (go_at_call 168;refine (HC.o).mono ?_;rintro e w1 ⟨v,rfl,ho,hb⟩;obtain ⟨A,c,rfl⟩:=Q0 ho;have HO:=zW ho;have HB:=zW hb;clear ho hb)
 go_ret3
 exact ⟨_,rfl,HO.o,HB.o⟩
theorem V1f (data:ByteArray) (ps:List Pt) (w:World) (hsz:data.size≤65536) (h:Calls Tryz.prog 169 #[.string data] w (K4 ps w)):
 Calls Tryz.prog 132 #[.int .i64 2,.string data] w (K4 ps w):=by
 have HC:=zW h;have hz:¬ (65536:Int) < (data.size:Int):=yY;clear h;go_enter Tryz.func132,Tryz.ntmps132
 go_wp2_with (go_at_call 169;refine (HC.o).mono ?_;rintro e w1 ⟨v,rfl,ho,hb⟩;obtain ⟨A,c,rfl⟩:=Q0 ho;have HO:=zW ho;have HB:=zW hb;clear ho hb)
 go_ret3
 exact ⟨_,rfl,HO.o,HB.o⟩
theorem V1g (data:ByteArray) (ps:List Pt) (w:World) (hsz:data.size≤65536) (h:Calls Tryz.prog 170 #[.string data] w (K4 ps w)):
 Calls Tryz.prog 132 #[.int .i64 3,.string data] w (K4 ps w):=by
 have HC:=zW h;have hz:¬ (65536:Int) < (data.size:Int):=yY;clear h;go_enter Tryz.func132,Tryz.ntmps132
 go_wp2_with (go_at_call 170;refine (HC.o).mono ?_;rintro e w1 ⟨v,rfl,ho,hb⟩;obtain ⟨A,c,rfl⟩:=Q0 ho;have HO:=zW ho;have HB:=zW hb;clear ho hb)
 go_ret3
 exact ⟨_,rfl,HO.o,HB.o⟩
def DS.cnt (d:DS):Nat:=d.un.1.length
theorem Z6o (d:DS) (h:d.Ok) (hc:d.un.1.length≤8) (hs:d.data.length≤65536) (w:World):
 Calls Tryz.prog 132 #[.int .i64 d.fmt,.string (ofL d.data)] w (K4 d.ps w):=by
 have hz:(ofL d.data).size≤65536:=(by rw [Q6];exact hs);cases d with
 | mk ms=>exact V1e _ _ w hz (Y6x _ ms w (by simpa [ofL,DS.data,DS.un,X5] using Q5a ms) h.1 h.2 (by rw [←M3];exact hc) hz)
 | rs ls=>exact V1f _ _ w hz (Y6y _ ls w (by simpa [ofL,DS.data,DS.un,X4] using Q9h ls) h.1 h.2.1 h.2.2 hz)
 | sh a b rr=>exact V1g _ _ w hz (Y6z _ a b rr w (by simpa [ofL,DS.data,DS.un,U1] using Q9i a b rr) h.1 h.2.1 h.2.2.1 h.2.2.2.1 (by rw [←Q1r a b rr];exact hc) h.2.2.2.2.2 hz)
theorem Y6q (fmt:Int) (h:E7 fmt) (w:World):Calls Tryz.prog 131 #[.int .i64 fmt] w (fun e w'=>e=.returned (.bool true)∧w=w'):=by
 rcases h with rfl | rfl | rfl
 all_goals (
  go_enter Tryz.func131,Tryz.ntmps131
  go_wp2_with fail
  go_ret
  exact ⟨rfl,rfl⟩)
theorem Z0f (fmt:Int) (hf:E7 fmt) (data:ByteArray) (ps:List Pt) (h:∀ w,Calls Tryz.prog 132 #[.int .i64 fmt,.string data] w (K4 ps w)) (w:World):
 Calls Tryz.prog 85 #[.int .i64 fmt,.string data] w (Y7x fmt ps w):=by
 have CK:=zW (fun w=>Y6q fmt hf w);have CS:=zW h;have HA:=zW ((Below.refl w.heap.size w).alloc yQ (.cells #[.int .i64 0,.slice none 0 0] 41));clear h;go_enter Tryz.func85,Tryz.ntmps85
 go_wp2_with (first
  | (go_at_call 131;refine (CK.o _).mono ?_;rintro e w' ⟨rfl,rfl⟩)
  | (go_at_call 132;refine (CS.o _).mono ?_;rintro e w1 ⟨v,rfl,ho,hb⟩;obtain ⟨A,c,rfl⟩:=Q0 ho;have HO:=zW ho;have HB:=zW (HA.o.trans (hb.mono HA.o.size));have q0:w1.cell? ⟨w.heap.size,0,none⟩=some (.int .i64 0):=(hb.cell yW).trans yU;have q1:w1.cell? ⟨w.heap.size,1,none⟩=some (.slice none 0 0):=(hb.cell yW).trans yU;have y0:w1.frozen? ⟨w.heap.size,0,none⟩=false:=(hb.frozen yW).trans yU;have y1:w1.frozen? ⟨w.heap.size,1,none⟩=false:=(hb.frozen yW).trans yU;clear hb ho))
 refine bodyPost_ret (Y6p rfl _ _ w.heap.size fmt A ps.length c _ _ rfl rfl rfl yU yU) rfl ?_;refine ⟨A,c,rfl,Y7 (Q8 HO.o fun k hk=>?_) HA.o.size,(HB.o.setCell (p:=⟨w.heap.size,0,none⟩) yQ _).setCell (p:=⟨w.heap.size,1,none⟩) yQ _⟩;have ha:=(HO.o.lt k hk).1;have hc:k≠w.heap.size:=by
  intro e;rw [e] at ha;simp at ha;omega
 rw [Below.heap_setCell _ _ _ _ hc,Below.heap_setCell _ _ _ _ hc]
theorem Y9y (fmt:Int) (ps:List Pt) (A:Option Addr) (c:Nat) (w:World) (h:RdE ptC 3 w (.slice A ps.length c) ps) (hl:ps.length≤100000) (hd:(Z0 ps).length≤1000000):
 Calls Tryz.prog 25 #[.agg #[.int .i64 fmt,.slice A ps.length c]] w (fun e w'=>e=.returned (.string (ofL (Z0 ps)))∧Below w.heap.size w w'):=by
 obtain ⟨R,he⟩:∃ R:Ending→World→Prop,yK (R=fun e w'=>e=.returned (.string (ofL (Z0 ps)))∧Below w.heap.size w w'):=⟨_,rfl⟩;rw [←he.o];have hi:=zW hd;have hg:=zW ((Below.refl w.heap.size w).alloc yQ (.cells #[.int .i64 fmt,.slice A ps.length c] 41));have HP:yK (RdE ptC 3 (w.alloc (.cells #[.int .i64 fmt,.slice A ps.length c] 41)) (.slice A ps.length c) ps):=h.alloc _;have HX:yK ((w.alloc (.cells #[.int .i64 fmt,.slice A ps.length c] 41)).heap[w.heap.size]? =some (.cells #[.int .i64 fmt,.slice A ps.length c] 41)):=heap_alloc_new w _;obtain ⟨q,hq⟩:∃ q,yK (q=w.heap.size):=⟨_,rfl⟩;clear h hd;go_enter Tryz.func25,Tryz.ntmps25
 go_upto_region 1 with fail
 rw [←hq.o] at HX ⊢;generalize w.alloc (.cells #[.int .i64 fmt,.slice A ps.length c] 41)=w1 at *;obtain ⟨d0,d1⟩:=Q1u HX.o;obtain ⟨wo,ha⟩:∃ wo,yK (wo=w1):=⟨w1,rfl⟩;go_wp2_with fail
 go_loopg [3,8] ps.length (fun gk sv iv wr=>∃ k:Nat,iv=.int .i64 k∧sv=.string (ofL (Z0 (ps.take k)))∧k≤ps.length∧yK (wr=wo)∧ps.length - k≤gk)
 case atStart=>exact ⟨0,rfl,rfl,Nat.zero_le _,ha.o.symm,yQ⟩
 case round=>
  obtain ⟨k,rfl,rfl,hk,HW,hgk⟩:=hrel;rw [←ha.o,←HW.o] at HP HX;by_cases hlt:k < ps.length
  ·obtain ⟨b,o,rfl,hb,c0,c1,c2⟩:=RdP.at_ HP.o k hlt;obtain ⟨d0,d1⟩:=Q1u HX.o;have hf:=X1u ps (k+1);have hc:=X3k ps k hlt;have hd:=hi.o;have hj:(k:Int) < (ps.length:Int):=yY;have hh:yK (ofL (Z0 (ps.take (k+1)))=ofL (Z0 (ps.take k))++ps[k].raw):=by
    show _=_;rw [hc];apply ByteArray.ext;apply Array.toList_inj.1;simp [ofL]
   have hm:(ofL (Z0 (ps.take k))).size≤1000000:=by
    rw [Q6];have:=X1u ps k;omega
   have hn:ps[k].raw.size≤1000000:=by
    rw [hc,List.length_append,←Lib.size_eq] at hf;omega
   generalize ps[k].raw=x2 at *;generalize hS:ofL (Z0 (ps.take k))=S at *;clear hf hc hS;go_wp2_with fail
   go_roundg (ps.length - (k+1))
   case measure=>omega
   case rel=>exact ⟨k+1,rfl,by rw [hh.o],hlt,HW.o,yQ⟩
  ·obtain rfl:k=ps.length:=yY;rw [List.take_length];go_wp2_with fail
   first | go_ret | skip
   rw [he.o];have hw:wr=w1:=HW.o.trans ha.o;refine ⟨rfl,?_⟩;rw [hw];exact hg.o
theorem Y6n {fn:Func} {p:Tmp} (h:fn.results=#[.cell p 41]) (tmps:Array Value) (w:World) (g:Nat) (k:Int) (A:Option Addr) (n c:Nat) (hp:tmps.getD p undef=.pointer (some ⟨g,0,none⟩))
 (c0:w.cell? ⟨g,0,none⟩=some (.int .i64 k)) (c1:w.cell? ⟨g,1,none⟩=some (.slice A n c)):
 (results fn tmps).run Tryz.prog w=.ok (.agg #[.int .i64 k,.slice A n c]) w:=by
 rw [Q4a h,hp];go_simp
theorem But.setO {g b:Nat} {a w:World} (h:But g a w) (hb:a.heap.size≤b) (o:Nat) (u:Value):But g a (w.setCell ⟨b,o,none⟩ u):=
 ⟨h.os,h.tape,h.output,by simpa [World.setCell] using h.size,fun k hk hn=>(Below.heap_setCell _ _ _ _ (by show k≠b;omega)).trans (h.block k hk hn)⟩
theorem Z8f (L:List Int) (g N n:Nat) (fmt:Int) (hf:E7 fmt) (w:World) (h:Nums w g L N) (hn:n≤3) (hN:N≤10000):
 Calls Tryz.prog 86 #[.pointer (some ⟨g,0,none⟩),.int .i64 fmt,.int .i64 (n:Nat)] w (fun e w'=>e=.returned (.string (ofL (F2 L N n fmt).data))∧(F2 L N n fmt).data.length≤25000∧But g w w'):=by
 rcases hf with rfl | rfl | rfl
 ·exact Z4f L g N n w h hn hN
 ·exact Z4g L g N n w h hn hN
 ·exact Z4h L g N n w h hn hN
theorem Z5j (L:List Int) (N n:Nat) (hn:n≤3) (fmt:Int) (hf:E7 fmt) (hs:(F2 L N n fmt).data.length≤25000) (w:World):
 Calls Tryz.prog 85 #[.int .i64 fmt,.string (ofL (F2 L N n fmt).data)] w (Y7x fmt (F2 L N n fmt).ps w):=by
 obtain ⟨h1,h2,h3⟩:=Y5l L N n hn fmt hf;refine Z0f fmt hf _ _ (fun w=>?_) w;have:=Z6o (F2 L N n fmt) h1 yY yY w;rw [h2] at this;exact this
def mdF (L:List Int):Int:=1+X0 L 0 3
theorem Z9y (L:List Int):E7 (mdF L):=by
 have:=X7 L 0 3 yX;unfold mdF E7;omega
def mdD (L:List Int):DS:=F2 L 1 3 (mdF L)
theorem Y1i (L:List Int) (g:Nat) (w:World) (h:Nums w g L 0):
 Calls Tryz.prog 46 #[.pointer (some ⟨g,0,none⟩),.int .i64 3] w (fun e w'=>∃ A c,e=.returned (.agg #[.int .i64 (mdF L),.slice A (mdD L).ps.length c])∧OwnE 52 ptC 3 w' w.heap.size (.slice A (mdD L).ps.length c) (mdD L).ps∧(mdD L).data.length≤25000∧But g w w'):=by
 obtain ⟨R,hm⟩:∃ R:Ending→World→Prop,yK (R=fun e w'=>∃ A c,e=.returned (.agg #[.int .i64 (mdF L),.slice A (mdD L).ps.length c])∧OwnE 52 ptC 3 w' w.heap.size (.slice A (mdD L).ps.length c) (mdD L).ps∧(mdD L).data.length≤25000∧But g w w'):=⟨_,rfl⟩;rw [←hm.o];have hf:=Z9y L;have CX:=zW (fun W h=>Z3 L g 0 3 W h yY yX yX);have CD:=zW (fun W h=>Z8f L g 1 3 (mdF L) hf W h yX yX);have CP:=zW (fun hs W=>Z5j L 1 3 yX (mdF L) hf hs W);have hv:yK (F2 L 1 3 (mdF L)=mdD L):=rfl;rw [hv.o] at CD CP;have hb:=X7 L 0 3 yX;have hA:=h.lt;have HZ:yK (mdF L=1+X0 L 0 3):=rfl;obtain ⟨u,hu⟩:∃ u:World,yK (w.alloc (.cells #[.int .i64 0,.slice none 0 0] 41)=u):=⟨_,rfl⟩;have HN:=zW (h.alloc (.cells #[.int .i64 0,.slice none 0 0] 41));have HB:=zW ((But.refl g w).alloc (.cells #[.int .i64 0,.slice none 0 0] 41));have HX:yK ((w.alloc (.cells #[.int .i64 0,.slice none 0 0] 41)).heap[w.heap.size]? =some (.cells #[.int .i64 0,.slice none 0 0] 41)):=heap_alloc_new w _;have HS:yK ((w.alloc (.cells #[.int .i64 0,.slice none 0 0] 41)).heap.size=w.heap.size+1):=(by show _=_;simp);clear h hf;generalize mdD L=d at *;generalize mdF L=fmt at *;have hy:=HZ.o;generalize X0 L 0 3=z at *;subst hy;clear HZ;go_enter Tryz.func46,Tryz.ntmps46
 go_upto_region 1 with fail
 rw [hu.o] at HN HB HX HS ⊢;go_wp2_with (first
  | (go_at_call 34;refine (CX.o _ (by exact HN.o)).mono ?_;rintro e w1 ⟨rfl,hd,hr⟩;have hh:=zW (HB.o.trans hd);have hj:=zW hr;have hn:yK (w1.heap[w.heap.size]? =some (.cells #[.int .i64 0,.slice none 0 0] 41)):=(hd.block _ (by rw [HS.o];omega) yY).trans HX.o;have hg:yK (w.heap.size+1≤w1.heap.size):=HS.o▸hd.size;clear hd hr HN HB HX HS CX)
  | (go_at_call 86;refine (CD.o _ (by exact hj.o)).mono ?_;rintro e w2 ⟨rfl,hl,he⟩;have HL:=zW hl;have hi:=zW (hh.o.trans he);have hp:yK (w2.heap[w.heap.size]? =some (.cells #[.int .i64 0,.slice none 0 0] 41)):=(he.block _ (by have:=hg.o;omega) yY).trans hn.o;have hc:yK (w.heap.size+1≤w2.heap.size):=Nat.le_trans hg.o he.size;clear he hl hj hh hn hg CD)
  | (go_at_call 85;refine (CP.o HL.o _).mono ?_;rintro e w3 ⟨A,c,rfl,ho,ha⟩;have HO:=zW ho;have ht:=zW (hi.o.trans (But.of_below ha));have hw:yK (w3.heap[w.heap.size]? =some (.cells #[.int .i64 0,.slice none 0 0] 41)):=(ha.block _ (by have:=hc.o;omega)).trans hp.o;obtain ⟨q0,q1,y0,y1⟩:=bx2 hw.o;have hz:yK (w2.heap.size≤w3.heap.size):=ha.size;have hB:w.heap.size < w3.heap.size:=Nat.lt_of_lt_of_le hc.o ha.size;clear ha ho CP hi hp))
 refine bodyPost_ret (Y6n rfl _ _ w.heap.size (1+z) A d.ps.length c rfl yU yU) rfl ?_;rw [hm.o];refine ⟨A,c,rfl,Y7 (Q8 HO.o fun k hk=>?_) (by have:=hc.o;omega),HL.o,((ht.o.setO yQ _ _).setO yQ _ _).alloc _⟩;have hx:=HO.o.lt k hk;have hq:k≠w.heap.size:=(by have:=hc.o;omega);rw [Below.heap_alloc _ _ _ (by simpa using hx.2),Below.heap_setCell _ _ _ _ hq,Below.heap_setCell _ _ _ _ hq]
theorem Z9x (L:List Int) (A0:Option Addr) (c0:Nat) (w:World) (h:RdE V6 1 w (.slice A0 L.length c0) L) (hL:∀ x∈L,I4 x):
 Calls Tryz.prog 17 #[.slice A0 L.length c0] w (fun e w'=>∃ A c,e=.returned (.agg #[.int .i64 (mdF L),.slice A (mdD L).ps.length c])∧OwnE 52 ptC 3 w' w.heap.size (.slice A (mdD L).ps.length c) (mdD L).ps∧(mdD L).data.length≤25000∧Below w.heap.size w w'):=by
 obtain ⟨R,hb⟩:∃ R:Ending→World→Prop,yK (R=fun e w'=>∃ A c,e=.returned (.agg #[.int .i64 (mdF L),.slice A (mdD L).ps.length c])∧OwnE 52 ptC 3 w' w.heap.size (.slice A (mdD L).ps.length c) (mdD L).ps∧(mdD L).data.length≤25000∧Below w.heap.size w w'):=⟨_,rfl⟩;rw [←hb.o];have HN:yK (Nums ((w.alloc (.cells #[.int .i64 0,.slice none 0 0] 41)).alloc (.cells #[.slice A0 L.length c0,.int .i64 0] 29)) (w.heap.size+1) L 0):=by
  refine ⟨.slice A0 L.length c0,w,?_,h,yY,fun k hk=>?_,hL⟩
  ·have:=heap_alloc_new (w.alloc (.cells #[.int .i64 0,.slice none 0 0] 41)) (.cells #[.slice A0 L.length c0,.int .i64 0] 29);simpa using this
  ·rw [Below.heap_alloc _ _ _ yV,Below.heap_alloc _ _ _ hk]
 have HB:yK (Below w.heap.size w ((w.alloc (.cells #[.int .i64 0,.slice none 0 0] 41)).alloc (.cells #[.slice A0 L.length c0,.int .i64 0] 29))):=((Below.refl w.heap.size w).alloc yQ _).alloc yW _;have HX:yK (((w.alloc (.cells #[.int .i64 0,.slice none 0 0] 41)).alloc (.cells #[.slice A0 L.length c0,.int .i64 0] 29)).heap[w.heap.size]? =some (.cells #[.int .i64 0,.slice none 0 0] 41)):=(Below.heap_alloc _ _ _ yW).trans (heap_alloc_new w _);have HS:yK (((w.alloc (.cells #[.int .i64 0,.slice none 0 0] 41)).alloc (.cells #[.slice A0 L.length c0,.int .i64 0] 29)).heap.size=w.heap.size+2):=(by show _=_;simp);have CD:=zW (fun W h=>Y1i L (w.heap.size+1) W h);clear h;generalize mdD L=d at *;generalize mdF L=z at *;go_enter Tryz.func17,Tryz.ntmps17
 go_wp2_with (go_at_call 46;refine (CD.o _ (by exact HN.o)).mono ?_;rintro e w3 ⟨A,c,rfl,ho,hl,ha⟩;have HL:=zW hl;have HO:=zW ho;have hd:=zW (HB.o.trans (ha.below (B:=w.heap.size) yY (by rw [HS.o];omega)));have he:yK (w3.heap[w.heap.size]? =some (.cells #[.int .i64 0,.slice none 0 0] 41)):=(ha.block _ (by rw [HS.o];omega) yY).trans HX.o;obtain ⟨q0,q1,y0,y1⟩:=bx2 he.o;have hg:w.heap.size < w3.heap.size:=Nat.lt_of_lt_of_le (by rw [HS.o];omega) ha.size;clear ha ho CD HB HX HN)
 refine bodyPost_ret (Y6n rfl _ _ w.heap.size z A d.ps.length c rfl yU yU) rfl ?_;rw [hb.o];have hs:=HS.o;refine ⟨A,c,rfl,Y7 (Q8 HO.o fun k hk=>?_) yY,HL.o,(hd.o.setCell (p:=⟨w.heap.size,0,none⟩) yQ _).setCell (p:=⟨w.heap.size,1,none⟩) yQ _⟩;have hf:=HO.o.lt k hk;have hc:k≠w.heap.size:=yY;rw [Below.heap_setCell _ _ _ _ hc,Below.heap_setCell _ _ _ _ hc]
end Go.Proofs.YtfkojnofbpdjdaaGreatDoor
namespace Go.Proofs.YtfkojnofbpdjdaaGreatDoor
open Go.ChangeShapes Go.WideShapes Go.ChangeAt Go.RowKit
theorem Q6p {H:Type} {enc:TypeId×Value→H} {a:Assume} {C:Checked} {os:Os} {f:FuncId} {fn:Func} {s:ChangeSpec} {conds:List PathCond} {apart fresh handsOn again:Bool} {X:World→Array Value→Prop}
 (hX:∀ (w w':World) (args:Array Value),w.heap=w'.heap→X w args→X w' args)
 (own:ownKnob C.prog.godebug=none) (started:os.Started) (noInit:C.prog.inits.idxOf? f=none) (hfn:C.prog.funcs[f]? =some fn)
 (witness:∃ (w:World) (tape:Tape) (i:Input),w.os=os∧(w.forCall tape i).Shaped C.prog∧i.vars=[]∧Input.okWide C.prog (w.forCall tape i) .any w.heap.size f i∧
   ((s.pre enc C.prog fn conds apart (w.forCall tape i).memory i.args∧X (w.forCall tape i).memory i.args)∧sizedMet enc C.prog fn (OpenSpec.ofChange s) apart (w.forCall tape i).memory i.args)∧a.holds C.prog (lone (Frame.enter C.prog f i.args .normal) [] (w.forCall tape i)))
 (contract:∀ (W:World) (base:Nat) (args:Array Value) (ds gs:List (DataW H)) (before:List MemPlace),
   (∀ (j:Nat) t v,fn.params[j]? =some t→args[j]? =some v→Value.okWide C.prog W .any base t v)→
   DataW.Whole enc C.prog fn.params.toList s.vars apart W args.toList ds gs before→
   conds.all (PathCond.test C.prog ⟨fn.params.toList,ds,s.plain.varTypes C.prog,gs⟩)=true→
   (DataW.weightsEach C.prog (fn.params.toList++s.plain.varTypes C.prog) (ds++gs)).all (·≤reachBytes)=true→W.ShapedOpen C.prog→X W args→
   a.holds C.prog (lone (Frame.enter C.prog f args .normal) [] W)→
   Calls C.prog f args W fun e W'=>∃ v,e=.returned v∧s.post enc C.prog fn apart fresh handsOn again W args v W'):
 ReturnsInHanded a C os f .any (fun w args=>(s.pre enc C.prog fn conds apart w args∧X w args)∧sizedMet enc C.prog fn (OpenSpec.ofChange s) apart w args) (s.post enc C.prog fn apart fresh handsOn again):=by
 refine returnsInHanded_of_calls own started noInit witness ?_;intro w tape i _ hsh _ hok hpre hholds;obtain ⟨_,_,_,fn',ha,_,_,_,_,hb⟩:=hok;have e:fn'=fn:=Option.some.inj (ha.symm.trans hfn);subst e;obtain ⟨⟨⟨ds,gs,before,hw,hc⟩,hx⟩,hz⟩:=hpre;have hd:=DataW.Whole.of_heap (w':=w.forCall tape i) (by rfl) hw;refine (contract (w.forCall tape i) w.heap.size i.args ds gs before hb hd hc (hz.weights hw) hsh (hX _ _ _ (by rfl) hx) hholds).mono fun e W' ⟨v,he,hp⟩=>?_;subst he;exact ChangeSpec.post_blind hp
def Got (w:World):Prop:=∃ m,w.cell? ⟨0,0,none⟩=some (.int .i64 m)
theorem V7f {W:World} (h:W.ShapedOpen Tryz.prog):Got W:=
 cell_of_shapedOpen_int (zero:=#[.int .i64 0]) (t:=3) h (of_decide_eq_true yZ) yZ rfl yZ yZ Tryz.underlying3
end Go.Proofs.YtfkojnofbpdjdaaGreatDoor
