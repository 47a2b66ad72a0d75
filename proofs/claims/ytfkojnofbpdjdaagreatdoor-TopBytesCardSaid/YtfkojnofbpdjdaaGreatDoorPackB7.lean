/-
  Contracts and plain laws that this claim leans on, part 7.
-/
import Derived.Test.YtfkojnofbpdjdaaGreatDoorPackB6
import Derived.Test.YtfkojnofbpdjdaaGreatDoorPackB4
import Derived.Test.YtfkojnofbpdjdaaGreatDoorPackB2
import Derived.Test.YtfkojnofbpdjdaaGreatDoorPackB3
import Derived.Test.YtfkojnofbpdjdaaGreatDoorRows
import Derived.ProofKit
import Derived.LaidMore
import Derived.Lay
import Derived.SizedLaws
import Derived.Shelf.Vars
import Derived.Stop.Joined
set_option linter.unusedVariables false
set_option linter.unusedSimpArgs false
set_option maxHeartbeats 16000000
set_option maxRecDepth 100000
namespace Go.Proofs.YtfkojnofbpdjdaaGreatDoor
open Go.Proofs.Tryz
open Go.RowKit
theorem Z7p (L:List Int) (g N n:Nat) (w:World) (h:Nums w g L N) (hn:n≤3) (hN:N≤10000):
 Calls prog 86 #[.pointer (some ⟨g,0,none⟩),.int .i64 2,.int .i64 (n:Nat)] w (fun e w'=>e=.returned (.string (ofL (F8 L N n 2).data))∧(F8 L N n 2).data.length≤25000∧But g w w'):=by
 obtain ⟨R,hi⟩:∃ R:Ending→World→Prop,yK (R=fun e w'=>e=.returned (.string (ofL (F8 L N n 2).data))∧(F8 L N n 2).data.length≤25000∧But g w w'):=⟨_,rfl⟩;rw [←hi.o];obtain ⟨tgt,HT⟩:∃ tgt,yK (X4m L (Q8 L (N+1) ((n:Int)+1)).toNat (Q9f.getD (Q8 L N 3).toNat []) (N+2)=tgt):=⟨_,rfl⟩;have hv:yK ((F8 L N n 2).data=X6 tgt.1):=by
  show _=_;unfold F8;rw [aE yX,aK rfl,HT.o];exact X0l _
 rw [hv.o] at hi;clear hv;have hA:=X5 L N 3 yX;have ha:=X5 L (N+1) ((n:Int)+1) yY;have CX0:=zW (fun W h=>Z2 L g N 3 W h yY yX yX);have CX1:=zW (fun W h=>Z2 L g (N+1) ((n:Int)+1) W h yY yY yY);generalize Q8 L N 3=z at *;generalize Q8 L (N+1) ((n:Int)+1)=y at *;obtain ⟨m,rfl⟩:∃ m:Nat,y=(m:Int):=⟨y.toNat,yY⟩;rw [cH] at HT;have hm:m≤3:=yY;have hZ:((z.toNat:Nat):Int)=z:=yY;have hK:=h.lt;have hw:=zW h;have hz:yK ([⟨#[]⟩,⟨#[35,32,99,10]⟩,⟨#[10,32,10]⟩].getD z.toNat (⟨#[]⟩:fY)=ofL (X6 (Q9f.getD z.toNat []))∧(X6 (Q9f.getD z.toNat [])).length≤20):=by
  rcases (show z=0∨z=1∨z=2 by omega) with rfl | rfl | rfl<;>exact ⟨rfl,yX⟩
 clear h ha;go_enter func86,ntmps86
 go_wp2_with fail
 refine (CX0.o _ (by exact hw.o.alloc (.cells #[.string ⟨#[]⟩,.string ⟨#[35,32,99,10]⟩,.string ⟨#[10,32,10]⟩] 9))).mono ?_;rintro e w1 ⟨rfl,hb1',hn1⟩;have q:=I8 (w:=w) (xs:=[⟨#[]⟩,⟨#[35,32,99,10]⟩,⟨#[10,32,10]⟩]) (t:=9) z hA.1 (by simpa using hA.2) hK (by exact hb1');rw [hz.o.1] at q;have hd:=zW (((But.refl g w).alloc (.cells #[.string ⟨#[]⟩,.string ⟨#[35,32,99,10]⟩,.string ⟨#[10,32,10]⟩] 9)).trans hb1');have hg:=zW hn1;have hP:=hz.o.2;clear hb1' hn1 hw CX0;go_wp2_with (go_at_call 34;refine (CX1.o _ (by exact hg.o)).mono ?_;rintro e w2 ⟨rfl,ha,hc⟩;have hf:=zW (hd.o.trans ha);have hh:=zW hc;clear ha hc)
 go_loopg [7,9] m (fun gk sv iv wr=>∃ (i k:Nat) (ms:List RL) (M:Nat),iv=.int .i64 (i:Nat)∧sv=.string (ofL (X6 ms))∧k+i=m∧M≤N+2+503 * k∧(X6 ms).length≤20+7000 * k∧yK (X4m L i ms M=tgt)∧yK (But g w wr)∧yK (Nums wr g L M)∧i≤gk)
 case atStart=>exact ⟨m,0,Q9f.getD z.toNat [],N+2,rfl,rfl,yY,yY,aP hP yY,HT.o,hf.o,hh.o,yQ⟩
 case round=>
  clear HT hd hg hf hh q;obtain ⟨i,k,ms,M,rfl,rfl,hY,hM,hB,HG,HB,HN,hgk⟩:=hrel;cases i with
  | zero=>
    have he:tgt=(ms,M):=HG.o.symm;rw [he] at hi;clear HG he;go_wp2_with fail
    first | go_ret | skip
    rw [hi.o];exact ⟨rfl,by show (X6 ms).length≤25000;omega,HB.o⟩
  | succ i=>
    have hX:(0:Int) < ((i+1:Nat):Int):=yY;have hk:=HG.o;rw [X4m] at hk;have hy:yK (J9 2 L M=V1 2 L (X9 (U8 false L M ((5:Nat):Int)).1) (U8 false L M ((5:Nat):Int)).2):=rfl;have hF:=V2v 2 (.inr (.inl rfl)) L M;have hF':FOkW 2 (U8 false L M ((5:Nat):Int)).1:=hF;obtain ⟨_,_,u3⟩:=W9 2 (.inr (.inl rfl)) L M;obtain ⟨u4,_,_⟩:=X3c 2 (.inr (.inl rfl)) L M;have hI:(U8 false L M ((5:Nat):Int)).2≤M+73:=(by have:=(Q6w false L M 5 yX).2.2.2.2.2;omega);have CF:=zW (fun W h=>Q6x L g M 5 W h yX yY);have CR:=zW (fun (A:Option Addr) (c:Nat) (W:World) h hQ=>X9h 2 (.inr (.inl rfl)) L g (U8 false L M ((5:Nat):Int)).2 (U8 false L M ((5:Nat):Int)).1 A c W h hQ hF' yY);rw [←hy.o] at CR;generalize J9 2 L M=u at *;generalize U8 false L M ((5:Nat):Int)=fr at *;obtain ⟨f,fN⟩:=fr;simp only at CR hI;have c3:=X5 L u.2 3 yX;have CNN:=zW (fun W h=>Z2 L g u.2 3 W h yY yX yX);generalize Q8 L u.2 3=zs at *;have hp:yK ([⟨#[]⟩,⟨#[35,120,10]⟩,⟨#[10]⟩].getD zs.toNat (⟨#[]⟩:fY)=ofL (X6 (X0j.getD zs.toNat []))∧(X6 (X0j.getD zs.toNat [])).length≤5):=by
     rcases (show zs=0∨zs=1∨zs=2 by omega) with rfl | rfl | rfl<;>exact ⟨rfl,yX⟩
    have CD:=zW (fun W=>X9c (i+1) yY yY W);rw [←Y3t (i+1) yY] at CD;obtain ⟨b2,ha⟩:∃ b2,yK (ofL (X6 (X0j.getD zs.toNat []))=b2):=⟨_,rfl⟩;obtain ⟨nm,hr⟩:∃ nm,yK (ofL (I9 (i+1))=nm):=⟨_,rfl⟩;obtain ⟨rw_,hs⟩:∃ rw_,yK (ofL (Q2 u.1)=rw_):=⟨_,rfl⟩;obtain ⟨D,hD⟩:∃ D,yK (ofL (X6 ms)=D):=⟨_,rfl⟩;rw [hr.o] at CD;have hH:b2.size≤5:=(by rw [←ha.o,Q6];exact hp.o.2);have hO:nm.size≤5:=(by rw [←hr.o,Q6];show 1≤5;decide);have hR:rw_.size≤6880:=(by rw [←hs.o,Q6];exact u4);have hT:D.size≤25000:=(by rw [←hD.o,Q6];omega);have hu:yK (D++((⟨#[107]⟩:fY)++nm++(⟨#[61]⟩:fY)++rw_++(⟨#[10]⟩:fY)++b2)=ofL (X6 (ms++(.unit (107::I9 (i+1)) u.1::X0j.getD zs.toNat [])))):=by
     show _=_;rw [←hD.o,←hr.o,←ha.o,←hs.o,X2h,show X6 (.unit (107::I9 (i+1)) u.1::X0j.getD zs.toNat [])=((107::I9 (i+1))++(61::(Q2 u.1++[10])))++X6 (X0j.getD zs.toNat []) from rfl];apply cB;apply bX.1;simp [ofL]
    have hL:(X6 (ms++(.unit (107::I9 (i+1)) u.1::X0j.getD zs.toNat []))).length≤20+7000 * (k+1):=by
     have:=congrArg ByteArray.size hu.o;rw [Q6] at this;rw [←this];have hS:D.size≤20+7000 * k:=(by rw [←hD.o,Q6];exact hB);simp only [bD];show D.size+(1+nm.size+1+rw_.size+1+b2.size)≤_;omega
    have hE:=zW hk;have hV:=HN.o.lt;have Ha:((zs.toNat:Nat):Int)=zs:=yY;clear HG hk hy hF hF' u4 hB;rw [hD.o];go_wp2_with fail
    refine (CF.o _ (by exact HN.o)).mono ?_;rintro e w1 ⟨v,rfl,ho,hb,hn1⟩;obtain ⟨Af,cf,rfl⟩:=Q0 ho;have hd:=zW (HB.o.trans hb);have hg:=zW hn1;have hx:yK (∀ W,But g w1 W→RdT W (.slice Af f.length cf) f):=fun W hW=>OwnE.rd Q5 (Q7 ho fun j hj=>hW.block j (ho.lt j hj).2 (by have:=(ho.lt j hj).1;omega));clear ho hb hn1 HB HN CF;go_wp2_with fail
    refine (CR.o _ _ _ (by exact hg.o) (by exact hx.o)).mono ?_;rintro e w2 ⟨rfl,hb,hc⟩;have hf:=zW (hd.o.trans hb);have hh:=zW hc;have hU:=hc.lt;rw [hs.o];clear hb hc hd hg CR hx;go_wp2_with (go_at_call 134;refine (CD.o _).mono ?_;rintro e w3 ⟨rfl,hq⟩;have ht:=zW (hf.o.trans (.of_below hq));have hl:=zW (hh.o.below hq yQ);clear hq)
    have hJ:=hl.o.lt;refine (CNN.o _ (by exact hl.o.alloc (.cells #[.string ⟨#[]⟩,.string ⟨#[35,120,10]⟩,.string ⟨#[10]⟩] 9))).mono ?_;rintro e w4 ⟨rfl,hb4,hn4⟩;have q:=I8 (w:=w3) (xs:=[⟨#[]⟩,⟨#[35,120,10]⟩,⟨#[10]⟩]) (t:=9) zs c3.1 (by simpa using c3.2) hJ (by exact hb4);rw [hp.o.1,ha.o] at q;have hC:=zW ((ht.o.alloc (.cells #[.string ⟨#[]⟩,.string ⟨#[35,120,10]⟩,.string ⟨#[10]⟩] 9)).trans hb4);have hG:=zW hn4;clear hb4 hn4 hf hh CNN ht hl hp;go_wp2_with fail
    go_roundg i
    case measure=>omega
    case rel=>exact ⟨i,k+1,_,u.2+1,rfl,congrArg Value.string hu.o,yY,yY,hL,hE.o,hC.o,hG.o,yQ⟩
theorem Z1m {o:Oper} {a:Act} {w:World} (ho:o.op=.buildSlice 79 3 #[(0,.const (.string ⟨#[]⟩)),(1,.const (.string ⟨#[55,44]⟩)),(2,.const (.string ⟨#[120,44]⟩))]):(execOp a.eval o).run prog w=.ok (.value (.slice (some ⟨w.heap.size,0,none⟩) 3 3)) (w.alloc (.cells #[.string ⟨#[]⟩,.string ⟨#[55,44]⟩,.string ⟨#[120,44]⟩] 9)):=by
 have h0:a.eval (.const (.string ⟨#[]⟩))=.string ⟨#[]⟩:=rfl;have h1:a.eval (.const (.string ⟨#[55,44]⟩))=.string ⟨#[55,44]⟩:=rfl;have h2:a.eval (.const (.string ⟨#[120,44]⟩))=.string ⟨#[120,44]⟩:=rfl;generalize a.eval=ρ at h0 h1 h2 ⊢;unfold execOp;simp only [ho];go_simp
theorem Z1n {o:Oper} {a:Act} {w:World} (ho:o.op=.buildSlice 79 3 #[(0,.const (.string ⟨#[]⟩)),(1,.const (.string ⟨#[]⟩)),(2,.const (.string ⟨#[44,34,121,34]⟩))]):(execOp a.eval o).run prog w=.ok (.value (.slice (some ⟨w.heap.size,0,none⟩) 3 3)) (w.alloc (.cells #[.string ⟨#[]⟩,.string ⟨#[]⟩,.string ⟨#[44,34,121,34]⟩] 9)):=by
 have h0:a.eval (.const (.string ⟨#[]⟩))=.string ⟨#[]⟩:=rfl;have h1:a.eval (.const (.string ⟨#[44,34,121,34]⟩))=.string ⟨#[44,34,121,34]⟩:=rfl;generalize a.eval=ρ at h0 h1 ⊢;unfold execOp;simp only [ho];go_simp
theorem Z7q (L:List Int) (g N n:Nat) (w:World) (h:Nums w g L N) (hn:n≤3) (hN:N≤10000):
 Calls prog 86 #[.pointer (some ⟨g,0,none⟩),.int .i64 3,.int .i64 (n:Nat)] w (fun e w'=>e=.returned (.string (ofL (F8 L N n 3).data))∧(F8 L N n 3).data.length≤25000∧But g w w'):=by
 obtain ⟨R,hk⟩:∃ R:Ending→World→Prop,yK (R=fun e w'=>e=.returned (.string (ofL (F8 L N n 3).data))∧(F8 L N n 3).data.length≤25000∧But g w w'):=⟨_,rfl⟩;rw [←hk.o];obtain ⟨tgt,HT⟩:∃ tgt,yK (X0h L (Q8 L N 3).toNat (Q8 L (N+1) ((n:Int)+1)).toNat 0 [] (N+2)=tgt):=⟨_,rfl⟩;have hB:yK ((F8 L N n 3).data=U9 (hdA.getD (Q8 L N 3).toNat []) (hdB.getD (Q8 L N 3).toNat []) tgt.1):=by
  show _=_;unfold F8;rw [aE yX,aE yX,HT.o];exact X0m _ _ _
 rw [hB.o] at hk;clear hB;have hc:=X5 L N 3 yX;have ha:=X5 L (N+1) ((n:Int)+1) yY;have CX0:=zW (fun W h=>Z2 L g N 3 W h yY yX yX);have CX1:=zW (fun W h=>Z2 L g (N+1) ((n:Int)+1) W h yY yY yY);generalize Q8 L N 3=z at *;generalize Q8 L (N+1) ((n:Int)+1)=y at *;obtain ⟨m,rfl⟩:∃ m:Nat,y=(m:Int):=⟨y.toNat,yY⟩;rw [cH] at HT;have hm:m≤3:=yY;have hX:((z.toNat:Nat):Int)=z:=yY;have hR:=h.lt;have hC:=zW h;have hs:yK ([⟨#[116,101,120,116]⟩,⟨#[105,100,44,116,101,120,116]⟩,⟨#[34,97,44,98,34,44,116,101,120,116,44,99]⟩].getD z.toNat (⟨#[]⟩:fY)=ofL (I6 (hdA.getD z.toNat []) (hdB.getD z.toNat []))∧(I6 (hdA.getD z.toNat []) (hdB.getD z.toNat [])).length≤20∧((I6 (hdA.getD z.toNat []) (hdB.getD z.toNat [])).length:Int) / 6=z):=by
  rcases (show z=0∨z=1∨z=2 by omega) with rfl | rfl | rfl<;>exact ⟨rfl,yX,yX⟩
 clear h ha;go_enter func86,ntmps86
 go_wp2_with fail
 refine (CX0.o _ (by exact hC.o.alloc (.cells #[.string ⟨#[116,101,120,116]⟩,.string ⟨#[105,100,44,116,101,120,116]⟩,.string ⟨#[34,97,44,98,34,44,116,101,120,116,44,99]⟩] 9))).mono ?_;rintro e w1 ⟨rfl,hb1',hn1⟩;have q:=I8 (w:=w) (xs:=[⟨#[116,101,120,116]⟩,⟨#[105,100,44,116,101,120,116]⟩,⟨#[34,97,44,98,34,44,116,101,120,116,44,99]⟩]) (t:=9) z hc.1 (by simpa using hc.2) hR (by exact hb1');rw [hs.o.1] at q;have hf:=zW (((But.refl g w).alloc (.cells #[.string ⟨#[116,101,120,116]⟩,.string ⟨#[105,100,44,116,101,120,116]⟩,.string ⟨#[34,97,44,98,34,44,116,101,120,116,44,99]⟩] 9)).trans hb1');have hg:=zW hn1;have hy:=hs.o.2;clear hb1' hn1 hC CX0;obtain ⟨hw,hl⟩:∃ hw,yK (ofL (I6 (hdA.getD z.toNat []) (hdB.getD z.toNat []))=hw):=⟨_,rfl⟩;have hJ:(hw.size:Int) / 6=z:=(by rw [←hl.o,Q6];exact hs.o.2.2);have hV:Int.tdiv (hw.size:Int) 6=z:=(by rw [Int.tdiv_eq_ediv_of_nonneg yY];exact hJ);have He:hw.size≤20:=(by rw [←hl.o,Q6];exact hy.1);rw [hl.o] at q;obtain ⟨c,rfl⟩:∃ c:Nat,z=(c:Int):=⟨z.toNat,yY⟩;rw [cH] at *;have hH:c < 3:=yY;have hP:(c:Int) < 3:=yY;clear hX hc;go_wp2_with (go_at_call 34;refine (CX1.o _ (by exact hg.o)).mono ?_;rintro e w2 ⟨rfl,ha,hd⟩;have hh:=zW (hf.o.trans ha);have hi:=zW hd;clear ha hd)
 clear hJ hV;go_loopg [7,9] m (fun gk sv iv wr=>∃ (i k:Nat) (ms:List Rc) (M:Nat),iv=.int .i64 (i:Nat)∧sv=.string (ofL (U9 (hdA.getD c []) (hdB.getD c []) ms))∧k+i=m∧M≤N+2+503 * k∧(U9 (hdA.getD c []) (hdB.getD c []) ms).length≤20+7000 * k∧yK (X0h L c i k ms M=tgt)∧yK (But g w wr)∧yK (Nums wr g L M)∧i≤gk)
 case atStart=>exact ⟨m,0,[],N+2,rfl,by rw [←hl.o];simp [U9],yY,yY,by (have:=hy.1);simpa [U9] using this,HT.o,hh.o,hi.o,yQ⟩
 case round=>
  clear HT hf hg hh hi q hy;obtain ⟨i,k,ms,M,rfl,rfl,Hd,hM,hI,HG,HB,HN,hgk⟩:=hrel;cases i with
  | zero=>
    have he:tgt=(ms,M):=HG.o.symm;rw [he] at hk;clear HG he;go_wp2_with fail
    first | go_ret | skip
    rw [hk.o];exact ⟨rfl,by show (U9 (hdA.getD c []) (hdB.getD c []) ms).length≤25000;omega,HB.o⟩
  | succ i=>
    have Hc:(0:Int) < ((i+1:Nat):Int):=yY;have hq:=HG.o;rw [X0h] at hq;have hG:yK (J9 3 L M=V1 3 L (X9 (U8 false L M ((5:Nat):Int)).1) (U8 false L M ((5:Nat):Int)).2):=rfl;have hF:=V2v 3 (.inr (.inr rfl)) L M;have hF':FOkW 3 (U8 false L M ((5:Nat):Int)).1:=hF;obtain ⟨_,_,u3⟩:=W9 3 (.inr (.inr rfl)) L M;obtain ⟨u4,_,_⟩:=X3c 3 (.inr (.inr rfl)) L M;have hQ:(U8 false L M ((5:Nat):Int)).2≤M+73:=(by have:=(Q6w false L M 5 yX).2.2.2.2.2;omega);have CF:=zW (fun W h=>Q6x L g M 5 W h yX yY);have CR:=zW (fun (A:Option Addr) (c:Nat) (W:World) h hT=>X9h 3 (.inr (.inr rfl)) L g (U8 false L M ((5:Nat):Int)).2 (U8 false L M ((5:Nat):Int)).1 A c W h hT hF' yY);rw [←hG.o] at CR;generalize J9 3 L M=u at *;generalize U8 false L M ((5:Nat):Int)=fr at *;obtain ⟨f,fN⟩:=fr;simp only at CR hQ;have ht:yK ([⟨#[]⟩,⟨#[55,44]⟩,⟨#[120,44]⟩].getD c (⟨#[]⟩:fY)=ofL (G0 (rcA.getD c []))∧(G0 (rcA.getD c [])).length≤5):=by
     rcases (show c=0∨c=1∨c=2 by omega) with rfl | rfl | rfl<;>exact ⟨rfl,yX⟩
    have hu:yK ([⟨#[]⟩,⟨#[]⟩,⟨#[44,34,121,34]⟩].getD c (⟨#[]⟩:fY)=ofL (T4 (rcB.getD c []))∧(T4 (rcB.getD c [])).length≤5):=by
     rcases (show c=0∨c=1∨c=2 by omega) with rfl | rfl | rfl<;>exact ⟨rfl,yX⟩
    obtain ⟨b1,hc⟩:∃ b1,yK (ofL (G0 (rcA.getD c []))=b1):=⟨_,rfl⟩;obtain ⟨b2,ha⟩:∃ b2,yK (ofL (T4 (rcB.getD c []))=b2):=⟨_,rfl⟩;obtain ⟨rw_,hz⟩:∃ rw_,yK (ofL (Q2 u.1)=rw_):=⟨_,rfl⟩;obtain ⟨D,hD⟩:∃ D,yK (ofL (U9 (hdA.getD c []) (hdB.getD c []) ms)=D):=⟨_,rfl⟩;have hL:b1.size≤5:=(by rw [←hc.o,Q6];exact ht.o.2);have hO:b2.size≤5:=(by rw [←ha.o,Q6];exact hu.o.2);have hU:rw_.size≤6880:=(by rw [←hz.o,Q6];exact u4);have hZ:D.size≤25000:=(by rw [←hD.o,Q6];omega);have hv:yK (∀ W:World,g < W.heap.size→CellK g (W.alloc (.cells #[.string ⟨#[]⟩,.string ⟨#[55,44]⟩,.string ⟨#[120,44]⟩] 9)) W.heap.size c b1):=fun W hW=>by
     have:=CellK.new W [⟨#[]⟩,⟨#[55,44]⟩,⟨#[120,44]⟩] 9 hW (by simpa using hH);rw [ht.o.1,hc.o] at this;exact this
    have hx:yK (∀ W:World,g < W.heap.size→CellK g (W.alloc (.cells #[.string ⟨#[]⟩,.string ⟨#[]⟩,.string ⟨#[44,34,121,34]⟩] 9)) W.heap.size c b2):=fun W hW=>by
     have:=CellK.new W [⟨#[]⟩,⟨#[]⟩,⟨#[44,34,121,34]⟩] 9 hW (by simpa using hH);rw [hu.o.1,ha.o] at this;exact this
    have hA:yK (D++((⟨#[10]⟩:fY)++b1++(⟨#[34]⟩:fY)++rw_++(⟨#[34]⟩:fY)++b2)=ofL (U9 (hdA.getD c []) (hdB.getD c []) (ms++[⟨rcA.getD c [],I9 (k+1),u.1,rcB.getD c []⟩]))):=by
     show _=_;rw [←hD.o,←hc.o,←ha.o,←hz.o,X0e];unfold Q7o;apply cB;apply bX.1;simp [ofL]
    have hS:(U9 (hdA.getD c []) (hdB.getD c []) (ms++[⟨rcA.getD c [],I9 (k+1),u.1,rcB.getD c []⟩])).length≤20+7000 * (k+1):=by
     have:=congrArg ByteArray.size hA.o;rw [Q6] at this;rw [←this];have hY:D.size≤20+7000 * k:=(by rw [←hD.o,Q6];exact hI);simp only [bD];show D.size+(1+b1.size+1+rw_.size+1+b2.size)≤_;omega
    have hK:=zW hq;have Hb:=HN.o.lt;clear HG hq hG hF hF' u4 hI ht hu;rw [hD.o];go_wp2_with fail
    refine (CF.o _ (by exact HN.o)).mono ?_;rintro e w1 ⟨v,rfl,ho,hb,hn1⟩;obtain ⟨Af,cf,rfl⟩:=Q0 ho;have hf:=zW (HB.o.trans hb);have hg:=zW hn1;have hE:yK (∀ W,But g w1 W→RdT W (.slice Af f.length cf) f):=fun W hW=>OwnE.rd Q5 (Q7 ho fun j hj=>hW.block j (ho.lt j hj).2 (by have:=(ho.lt j hj).1;omega));clear ho hb hn1 HB HN CF;go_wp2_with fail
    refine (CR.o _ _ _ (by exact hg.o) (by exact hE.o)).mono ?_;rintro e w2 ⟨rfl,hb,hd⟩;have hh:=zW (hf.o.trans hb);have hi:=zW hd;have Ha:=hd.lt;rw [hz.o];clear hb hd hf hg CR hE;go_upto_region 16 with fail
    have hp:yK (But g w w2.drew):=hh.o.drewN 1;have hr:yK (Nums w2.drew g L u.2):=hi.o;refine zqR (l0:=bL 17 0) 17 kr ?_;show let o:=_;let q:=_;let a0:=_;wpAny prog _ o q _ _ a0 _
    intro o q a0;let a_:Act:=(((a0.put (some 53) (.string D)).put (some 55) (.int .i64 (c:Int))).put (some 60) (.string rw_)).put (some 64) (.int .i64 (c:Int))
    let a_0:Nat→Act:=fun ga1=>(a_.put (some 54) (.slice (some ⟨ga1,0,none⟩) 3 3)).put (some 56) (.pointer (some ⟨ga1,c,none⟩))
    let a_2:Nat→Act:=fun ga2=>(a_.put (some 63) (.slice (some ⟨ga2,0,none⟩) 3 3)).put (some 65) (.pointer (some ⟨ga2,c,none⟩))
    let a_01:Nat→Act:=fun ga1=>(((((a_0 ga1).put (some 57) (.string b1)).put (some 58) (.string ((⟨#[10]⟩:fY)++b1))).put (some 59) (.string ((⟨#[10]⟩:fY)++b1++(⟨#[34]⟩:fY)))).put (some 61) (.string ((⟨#[10]⟩:fY)++b1++(⟨#[34]⟩:fY)++rw_))).put (some 62) (.string ((⟨#[10]⟩:fY)++b1++(⟨#[34]⟩:fY)++rw_++(⟨#[34]⟩:fY)))
    let a_02:Nat→Nat→Act:=fun ga1 ga2=>((a_0 ga1).put (some 63) (.slice (some ⟨ga2,0,none⟩) 3 3)).put (some 65) (.pointer (some ⟨ga2,c,none⟩))
    let a_23:Nat→Act:=fun ga2=>(a_2 ga2).put (some 66) (.string b2)
    let a_012:Nat→Nat→Act:=fun ga1 ga2=>((a_01 ga1).put (some 63) (.slice (some ⟨ga2,0,none⟩) 3 3)).put (some 65) (.pointer (some ⟨ga2,c,none⟩))
    let a_023:Nat→Nat→Act:=fun ga1 ga2=>(a_02 ga1 ga2).put (some 66) (.string b2)
    let a_0123:Nat→Nat→Act:=fun ga1 ga2=>((((a_012 ga1 ga2).put (some 66) (.string b2)).put (some 67) (.string ((⟨#[10]⟩:fY)++b1++(⟨#[34]⟩:fY)++rw_++(⟨#[34]⟩:fY)++b2))).put (some 68) (.string (D++((⟨#[10]⟩:fY)++b1++(⟨#[34]⟩:fY)++rw_++(⟨#[34]⟩:fY)++b2)))).put (some 7) (.string (D++((⟨#[10]⟩:fY)++b1++(⟨#[34]⟩:fY)++rw_++(⟨#[34]⟩:fY)++b2)))
    have S0123:∀ (W:World) (ga1:Nat) (ga2:Nat),But g w W→Nums W g L u.2→wpAny prog .any o q 0 (bL 17 131071) (a_0123 ga1 ga2) W:=by
     intro W ga1 ga2 HB HN;simp only [a_0123,a_012,a_01,a_0,a_,a0,Act.put,zZ,zY,zX];refine bW yZ ?_ _;simp only [q];go_wp2_with fail
     go_roundg i
     case measure=>omega
     case rel=>exact ⟨i,k+1,_,u.2,rfl,congrArg Value.string hA.o,yY,yY,hS,hK.o,HB,HN,yQ⟩
    have S012:∀ (W:World) (ga1:Nat) (ga2:Nat),But g w W→Nums W g L u.2→CellK g W ga2 c b2→wpAny prog .any o q 4 (bL 17 8191) (a_012 ga1 ga2) W:=by
     intro W ga1 ga2 HB HN HC2;simp only [a_012,a_01,a_0,a_,a0,Act.put,zZ,zY,zX];refine zqo 13 rfl ?_;refine zqL (.string b2) rfl (.pointer (some ⟨ga2,c,none⟩)) (E4 HC2.2.2) ?_;refine zqD 14 67 rfl rfl ((⟨#[10]⟩:fY)++b1++(⟨#[34]⟩:fY)++rw_++(⟨#[34]⟩:fY)) b2 ?_;refine zqD 15 68 rfl rfl D ((⟨#[10]⟩:fY)++b1++(⟨#[34]⟩:fY)++rw_++(⟨#[34]⟩:fY)++b2) ?_;refine zqG 16 7 (.string (D++((⟨#[10]⟩:fY)++b1++(⟨#[34]⟩:fY)++rw_++(⟨#[34]⟩:fY)++b2))) rfl ?_;exact zqX (S0123 W ga1 ga2 HB HN)
    have S01:∀ (W:World) (ga1:Nat),But g w W→Nums W g L u.2→wpAny prog .any o q 6 (bL 17 3071) (a_01 ga1) W:=by
     intro W ga1 HB HN;simp only [a_01,a_0,a_,a0,Act.put,zZ,zY,zX];refine zqo 10 rfl ?_;refine X1 (v:=.slice (some ⟨W.heap.size,0,none⟩) 3 3) (w2:=W.alloc (.cells #[.string ⟨#[]⟩,.string ⟨#[]⟩,.string ⟨#[44,34,121,34]⟩] 9)) (Z1n rfl) ?_;refine zqI 12 65 (.pointer (some ⟨W.heap.size,c,none⟩)) rfl rfl (.slice (some ⟨W.heap.size,0,none⟩) 3 3) (.int .i64 (c:Int)) ?_;exact zqX (S012 (W.alloc (.cells #[.string ⟨#[]⟩,.string ⟨#[]⟩,.string ⟨#[44,34,121,34]⟩] 9)) ga1 W.heap.size (HB.alloc _) (HN.alloc _) (hx.o W HN.lt))
    have S023:∀ (W:World) (ga1:Nat) (ga2:Nat),But g w W→Nums W g L u.2→CellK g W ga1 c b1→wpAny prog .any o q 8 (bL 17 15503) (a_023 ga1 ga2) W:=by
     intro W ga1 ga2 HB HN HC1;simp only [a_023,a_02,a_0,a_,a0,Act.put,zZ,zY,zX];refine zqo 4 rfl ?_;refine zqL (.string b1) rfl (.pointer (some ⟨ga1,c,none⟩)) (E4 HC1.2.2) ?_;refine zqD 5 58 rfl rfl (⟨#[10]⟩:fY) b1 ?_;refine zqD 6 59 rfl rfl ((⟨#[10]⟩:fY)++b1) (⟨#[34]⟩:fY) ?_;refine zqD 8 61 rfl rfl ((⟨#[10]⟩:fY)++b1++(⟨#[34]⟩:fY)) rw_ ?_;refine zqD 9 62 rfl rfl ((⟨#[10]⟩:fY)++b1++(⟨#[34]⟩:fY)++rw_) (⟨#[34]⟩:fY) ?_;refine zqD 14 67 rfl rfl ((⟨#[10]⟩:fY)++b1++(⟨#[34]⟩:fY)++rw_++(⟨#[34]⟩:fY)) b2 ?_;refine zqD 15 68 rfl rfl D ((⟨#[10]⟩:fY)++b1++(⟨#[34]⟩:fY)++rw_++(⟨#[34]⟩:fY)++b2) ?_;refine zqG 16 7 (.string (D++((⟨#[10]⟩:fY)++b1++(⟨#[34]⟩:fY)++rw_++(⟨#[34]⟩:fY)++b2))) rfl ?_;exact zqX (S0123 W ga1 ga2 HB HN)
    have S02:∀ (W:World) (ga1:Nat) (ga2:Nat),But g w W→Nums W g L u.2→CellK g W ga1 c b1→CellK g W ga2 c b2→wpAny prog .any o q 9 (bL 17 7311) (a_02 ga1 ga2) W:=by
     intro W ga1 ga2 HB HN HC1 HC2;simp only [a_02,a_0,a_,a0,Act.put,zZ,zY,zX];refine zqt 4 13 rfl rfl ?_ ?_
     ·refine zqL (.string b1) rfl (.pointer (some ⟨ga1,c,none⟩)) (E4 HC1.2.2) ?_;refine zqD 5 58 rfl rfl (⟨#[10]⟩:fY) b1 ?_;refine zqD 6 59 rfl rfl ((⟨#[10]⟩:fY)++b1) (⟨#[34]⟩:fY) ?_;refine zqD 8 61 rfl rfl ((⟨#[10]⟩:fY)++b1++(⟨#[34]⟩:fY)) rw_ ?_;refine zqD 9 62 rfl rfl ((⟨#[10]⟩:fY)++b1++(⟨#[34]⟩:fY)++rw_) (⟨#[34]⟩:fY) ?_;exact zqX (S012 W ga1 ga2 HB HN HC2)
     ·refine zqL (.string b2) rfl (.pointer (some ⟨ga2,c,none⟩)) (E4 HC2.2.2) ?_;exact zqX (S023 W ga1 ga2 HB HN HC1)
    have S23:∀ (W:World) (ga2:Nat),But g w W→Nums W g L u.2→wpAny prog .any o q 10 (bL 17 15493) (a_23 ga2) W:=by
     intro W ga2 HB HN;simp only [a_23,a_2,a_,a0,Act.put,zZ,zY,zX];refine zqo 1 rfl ?_;refine X1 (v:=.slice (some ⟨W.heap.size,0,none⟩) 3 3) (w2:=W.alloc (.cells #[.string ⟨#[]⟩,.string ⟨#[55,44]⟩,.string ⟨#[120,44]⟩] 9)) (Z1m rfl) ?_;refine zqI 3 56 (.pointer (some ⟨W.heap.size,c,none⟩)) rfl rfl (.slice (some ⟨W.heap.size,0,none⟩) 3 3) (.int .i64 (c:Int)) ?_;exact zqX (S023 (W.alloc (.cells #[.string ⟨#[]⟩,.string ⟨#[55,44]⟩,.string ⟨#[120,44]⟩] 9)) W.heap.size ga2 (HB.alloc _) (HN.alloc _) (hv.o W HN.lt))
    have S0:∀ (W:World) (ga1:Nat),But g w W→Nums W g L u.2→CellK g W ga1 c b1→wpAny prog .any o q 11 (bL 17 2191) (a_0 ga1) W:=by
     intro W ga1 HB HN HC1;simp only [a_0,a_,a0,Act.put,zZ,zY,zX];refine zqt 4 10 rfl rfl ?_ ?_
     ·refine zqL (.string b1) rfl (.pointer (some ⟨ga1,c,none⟩)) (E4 HC1.2.2) ?_;refine zqD 5 58 rfl rfl (⟨#[10]⟩:fY) b1 ?_;refine zqD 6 59 rfl rfl ((⟨#[10]⟩:fY)++b1) (⟨#[34]⟩:fY) ?_;refine zqD 8 61 rfl rfl ((⟨#[10]⟩:fY)++b1++(⟨#[34]⟩:fY)) rw_ ?_;refine zqD 9 62 rfl rfl ((⟨#[10]⟩:fY)++b1++(⟨#[34]⟩:fY)++rw_) (⟨#[34]⟩:fY) ?_;exact zqX (S01 W ga1 HB HN)
     ·refine X1 (v:=.slice (some ⟨W.heap.size,0,none⟩) 3 3) (w2:=W.alloc (.cells #[.string ⟨#[]⟩,.string ⟨#[]⟩,.string ⟨#[44,34,121,34]⟩] 9)) (Z1n rfl) ?_;refine zqI 12 65 (.pointer (some ⟨W.heap.size,c,none⟩)) rfl rfl (.slice (some ⟨W.heap.size,0,none⟩) 3 3) (.int .i64 (c:Int)) ?_;exact zqX (S02 (W.alloc (.cells #[.string ⟨#[]⟩,.string ⟨#[]⟩,.string ⟨#[44,34,121,34]⟩] 9)) ga1 W.heap.size (HB.alloc _) (HN.alloc _) (HC1.alloc _) (hx.o W HN.lt))
    have S2:∀ (W:World) (ga2:Nat),But g w W→Nums W g L u.2→CellK g W ga2 c b2→wpAny prog .any o q 11 (bL 17 7301) (a_2 ga2) W:=by
     intro W ga2 HB HN HC2;simp only [a_2,a_,a0,Act.put,zZ,zY,zX];refine zqt 1 13 rfl rfl ?_ ?_
     ·refine X1 (v:=.slice (some ⟨W.heap.size,0,none⟩) 3 3) (w2:=W.alloc (.cells #[.string ⟨#[]⟩,.string ⟨#[55,44]⟩,.string ⟨#[120,44]⟩] 9)) (Z1m rfl) ?_;refine zqI 3 56 (.pointer (some ⟨W.heap.size,c,none⟩)) rfl rfl (.slice (some ⟨W.heap.size,0,none⟩) 3 3) (.int .i64 (c:Int)) ?_;exact zqX (S02 (W.alloc (.cells #[.string ⟨#[]⟩,.string ⟨#[55,44]⟩,.string ⟨#[120,44]⟩] 9)) W.heap.size ga2 (HB.alloc _) (HN.alloc _) (hv.o W HN.lt) (HC2.alloc _))
     ·refine zqL (.string b2) rfl (.pointer (some ⟨ga2,c,none⟩)) (E4 HC2.2.2) ?_;exact zqX (S23 W ga2 HB HN)
    have S:∀ (W:World),But g w W→Nums W g L u.2→wpAny prog .any o q 17 (bL 17 0) a0 W:=by
     intro W HB HN;simp only [a0,Act.put,zZ,zY,zX];refine zqM 0 53 (.string D) rfl ?_;refine zqM 2 55 (.int .i64 (c:Int)) rfl ?_;refine zqM 7 60 (.string rw_) rfl ?_;refine zqM 11 64 (.int .i64 (c:Int)) rfl ?_;simp only [Act.put,zZ,zY,zX];refine zqt 1 10 rfl rfl ?_ ?_
     ·refine X1 (v:=.slice (some ⟨W.heap.size,0,none⟩) 3 3) (w2:=W.alloc (.cells #[.string ⟨#[]⟩,.string ⟨#[55,44]⟩,.string ⟨#[120,44]⟩] 9)) (Z1m rfl) ?_;refine zqI 3 56 (.pointer (some ⟨W.heap.size,c,none⟩)) rfl rfl (.slice (some ⟨W.heap.size,0,none⟩) 3 3) (.int .i64 (c:Int)) ?_;exact zqX (S0 (W.alloc (.cells #[.string ⟨#[]⟩,.string ⟨#[55,44]⟩,.string ⟨#[120,44]⟩] 9)) W.heap.size (HB.alloc _) (HN.alloc _) (hv.o W HN.lt))
     ·refine X1 (v:=.slice (some ⟨W.heap.size,0,none⟩) 3 3) (w2:=W.alloc (.cells #[.string ⟨#[]⟩,.string ⟨#[]⟩,.string ⟨#[44,34,121,34]⟩] 9)) (Z1n rfl) ?_;refine zqI 12 65 (.pointer (some ⟨W.heap.size,c,none⟩)) rfl rfl (.slice (some ⟨W.heap.size,0,none⟩) 3 3) (.int .i64 (c:Int)) ?_;exact zqX (S2 (W.alloc (.cells #[.string ⟨#[]⟩,.string ⟨#[]⟩,.string ⟨#[44,34,121,34]⟩] 9)) W.heap.size (HB.alloc _) (HN.alloc _) (hx.o W HN.lt))
    have Z:=S _ hp.o hr.o;simp only [a0] at Z;exact Z
structure BlD (B g:Nat) (data:fY) (fr:Nat) (lv:Value) (ps:List Pt) (w:World):Prop where
 box:w.heap[g]? =some (.cells #[.string data,lv,.int .i64 fr] 269)
 own:OwnE 52 ptC 3 w B lv ps
 lt:B≤g
section
variable {B g:Nat} {data:fY} {fr:Nat} {lv lv':Value} {ps ps':List Pt} {w w':World}
theorem BlD.gsz (h:BlD B g data fr lv ps w):g < w.heap.size:=(aN.1 h.box).1
theorem BlD.nL (h:BlD B g data fr lv ps w):X5a g lv:=Y1 h.own h.box yX
theorem BlD.below (h:BlD B g data fr lv ps w) (hb:Below w.heap.size w w'):BlD B g data fr lv ps w':=
 ⟨(hb.block g h.gsz).trans h.box,Q7 h.own fun k hk=>hb.block k (h.own.lt k hk).2,h.lt⟩
theorem BlD.alloc (h:BlD B g data fr lv ps w) (o:Obj):BlD B g data fr lv ps (w.alloc o):=h.below ((aB _ _).alloc yQ o)
theorem BlD.drew (h:BlD B g data fr lv ps w):BlD B g data fr lv ps w.drew:=⟨h.box,h.own,h.lt⟩
theorem BlD.gr (h:BlD B g data fr lv ps w) (hg:w.grownBy w' lv.ownBlock):w'.heap[g]? =some (.cells #[.string data,lv,.int .i64 fr] 269):=(hg.block g h.gsz (fun e=>h.nL g e.symm rfl)).trans h.box
theorem BlD.put (h:BlD B g data fr lv ps w) (ho:OwnE 52 ptC 3 w' B lv' ps') (hg:w.grownBy w' lv.ownBlock):
 BlD B g data fr lv' ps' (w'.setCell ⟨g,1,none⟩ lv'):=by
 have hs:=Mod.set w' g 1 lv';have ha:=h.gr hg;exact ⟨by rw [D0 ha];rfl,hs.own ho fun k hk e=>Y1 ho ha yX k hk e,h.lt⟩
theorem BlD.to (h:BlD B g data fr lv ps w) (b:Nat):BlD B g data b lv ps (w.setCell ⟨g,2,none⟩ (.int .i64 b)):=by
 have hs:=Mod.set w g 2 (.int .i64 b);exact ⟨by rw [D0 h.box];rfl,hs.own h.own fun k hk e=>h.nL k hk e,h.lt⟩
end
theorem X4t (a b:Nat) (key:fY) {B g:Nat} {data:fY} {fr:Nat} {lv:Value} {ps:List Pt} {w:World} (h:BlD B g data fr lv ps w)
 (h1:fr≤a) (h2:a≤b) (h3:b≤data.size) (hd:data.size≤100000000) (hl:ps.length≤1000000):
 Calls prog 192 #[.pointer (some ⟨g,0,none⟩),.string key,.int .i64 a,.int .i64 b] w (fun e w'=>(∃ v,e=.returned v)∧∃ lv',BlD B g data b lv' (ps++[⟨false,⟨#[]⟩,data.extract fr a⟩,⟨true,key,data.extract a b⟩]) w'∧Below B w w'∧∀ k,k < w.heap.size→k≠g→lv.ownBlock≠some k→w'.heap[k]? =w.heap[k]?):=by
 have hg:=aP h.lt (cS h.gsz);obtain ⟨q0,q1,q2,_⟩:=bx3 h.box;obtain ⟨A0,c0,rfl⟩:=Q0 h.own;have H:=zW h;have HB:=zW (aB B w);have HA:=zW (h.drew.alloc (.cells (([⟨false,⟨#[]⟩,data.extract fr a⟩,⟨true,key,data.extract a b⟩]:List Pt).flatMap ptC).toArray 52));have hz:B≤w.drew.heap.size:=hg;have h4:a≤data.size:=yY;have p2:(w.alloc (.cells #[.bool false,.string ⟨#[]⟩,.string (data.extract fr a),.bool true,.string key,.string (data.extract a b)] 52)).cell? ⟨g,1,none⟩=some (.slice A0 ps.length c0):=(bx3 HA.o.box).2.1;have hf:yK (w.heap.size < (w.drew.alloc (.cells (([⟨false,⟨#[]⟩,data.extract fr a⟩,⟨true,key,data.extract a b⟩]:List Pt).flatMap ptC).toArray 52)).heap.size):=(by show _ < _;simp);clear h;go_enter func192,ntmps192
 go_wp2_with fail
 go_region_law (first
  | (refine H4 rfl (.tmp 12) (.tmp 33) 39 52 rfl underlying39 _ ptC 3 40 X2g rfl yX D3 X2f B (.slice A0 ps.length c0) ps (by simp [Act.eval]) (by exact HA.o.own) (.slice (some ⟨w.drew.heap.size, 0, none⟩) 2 2) [⟨false, ⟨#[]⟩, data.extract fr a⟩, ⟨true, key, data.extract a b⟩] (by simp [Act.eval]) (by exact X2i ptC 3 D3 _ _ rfl _ _ rfl _ _ rfl yX) yV yX yV ?_
     intro v7 w7 hown7 hbel7 hgr7 hat7;obtain ⟨A7,c7,hb⟩:=Q0 hown7;rw [show (ps++[(⟨false,⟨#[]⟩,data.extract fr a⟩:Pt),⟨true,key,data.extract a b⟩]).length=ps.length+2 by simp] at hb;subst hb;have HP:=zW (HA.o.put hown7 hgr7);have hc:=zW (hbel7 B w yQ ((aB B w).drew.alloc hz _));have he:=zW (fun (k:Nat) (hk:k < w.heap.size) (hv:(Value.slice A0 ps.length c0).ownBlock≠some k)=>(hgr7.block k (Nat.lt_trans hk hf.o) (fun e=>hv e.symm)).trans (bE w.drew _ k hk));have z0:=(bx3 (HA.o.gr hgr7)).2.1;have y0:=(bx3 (HA.o.gr hgr7)).2.2.2.2.1;clear hown7 hbel7))
 all_goals (
  have hh:=(bx3 HP.o.box).2.2.1;have hi:=(bx3 HP.o.box).2.2.2.2.2;have HG:=zW H.o.lt;go_wp2_with fail
  refine fS (eU rfl _ _ _) rfl ?_;refine ⟨⟨_,rfl⟩,_,HP.o.to b,(hc.o.setCell (p:=⟨g,1,none⟩) HG.o _).setCell (p:=⟨g,2,none⟩) HG.o _,fun k hk ha hv=>?_⟩;rw [aV _ _ _ _ ha,aV _ _ _ _ ha];exact he.o k hk hv)
theorem X7l {B g:Nat} {data:fY} {fr:Nat} {lv:Value} {ps:List Pt} {w:World} (h:BlD B g data fr lv ps w) (h1:fr≤data.size) (hd:data.size≤100000000) (hl:ps.length≤1000000):
 Calls prog 193 #[.pointer (some ⟨g,0,none⟩)] w (fun e w'=>∃ v,e=.returned v∧OwnE 52 ptC 3 w' B v (ps++[⟨false,⟨#[]⟩,data.extract fr data.size⟩])∧Below B w w'):=by
 have hc:=aP h.lt (cS h.gsz);obtain ⟨q0,q1,q2,_⟩:=bx3 h.box;obtain ⟨A0,c0,rfl⟩:=Q0 h.own;have H:=zW h;have HA:=zW (h.drew.alloc (.cells (([⟨false,⟨#[]⟩,data.extract fr data.size⟩]:List Pt).flatMap ptC).toArray 52));have hz:B≤w.drew.heap.size:=hc;have p2:(w.alloc (.cells #[.bool false,.string ⟨#[]⟩,.string (data.extract fr data.size)] 52)).cell? ⟨g,1,none⟩=some (.slice A0 ps.length c0):=(bx3 HA.o.box).2.1;clear h;go_enter func193,ntmps193
 go_wp2_with fail
 go_region_law (first
  | (refine H4 rfl (.tmp 6) (.tmp 17) 39 52 rfl underlying39 _ ptC 3 40 X2g rfl yX D3 X2f B (.slice A0 ps.length c0) ps (by simp [Act.eval]) (by exact HA.o.own) (.slice (some ⟨w.drew.heap.size, 0, none⟩) 1 1) [⟨false, ⟨#[]⟩, data.extract fr data.size⟩] (by simp [Act.eval]) (by exact X2i ptC 3 D3 _ _ rfl _ _ rfl _ _ rfl yX) yV yX yV ?_
     intro v7 w7 hown7 hbel7 hgr7 hat7;obtain ⟨A7,c7,ha⟩:=Q0 hown7;rw [show (ps++[(⟨false,⟨#[]⟩,data.extract fr data.size⟩:Pt)]).length=ps.length+1 by simp] at ha;subst ha;have HP:=zW hown7;have hb:=zW (hbel7 B w yQ ((aB B w).drew.alloc hz _));clear hown7 hbel7))
 all_goals (
  go_wp2_with fail
  first | go_ret | skip
  exact ⟨_,rfl,HP.o,hb.o⟩)
theorem Q7z (c d:UInt8) (h:c≠d):((c.toNat:Int) != (d.toNat:Int))=true:=by
 rw [dZ];intro e;exact h (cN.1 (by exact_mod_cast e))
theorem V2q (data:fY) (pre r s:List UInt8) (w:World) (hd:data.data.toList=pre++(r++s)) (hr:∀ c∈r,c≠34∧c≠44∧c≠10) (hs:FdEnd s) (hsz:data.size≤65536):
 Calls prog 197 #[.string data,.int .i64 (pre.length:Nat)] w (Q9i (pre.length+r.length) false w):=by
 obtain ⟨R,hg⟩:∃ R:Ending→World→Prop,yK (R=Q9i (pre.length+r.length) false w):=⟨_,rfl⟩;rw [←hg.o];have hh:data.size=pre.length+(r.length+s.length):=(by rw [aC,hd];simp);have hi:=zW (M5 data pre (r++s) hd);have HR:=zW hr;have HS:=zW hs;have H0:yK (∀ h:pre.length < data.size,((data[pre.length].toNat:Int)==34)=false):=fun h=>by
  have h1:=hi.o 0 pre.length yV rfl h;rw [h1];refine Y2 _ 34 ?_;cases r with
  | cons c r=>exact (hr c yW).1
  | nil=>
    rcases hs with rfl | ⟨c,q,rfl,hc⟩
    ·simp at hh;omega
    ·rcases hc with rfl | rfl
     ·show (44:UInt8)≠34;decide
     ·show (10:UInt8)≠34;decide
 have hu:pre.length+r.length≤data.size:=yY;clear hd hr hs;generalize hP:pre.length=P at *;have HP:=zW hP;clear hP;obtain ⟨wo,hf⟩:∃ wo,yK (wo=w):=⟨w,rfl⟩;have hj:(P < data.size∧(P:Int) < (data.size:Int))∨(¬ P < data.size∧¬ (P:Int) < (data.size:Int)):=yY;have HL:=zW hh;clear hh;rcases hj with ⟨hps,hpsi⟩ | ⟨hps,hpsi⟩
 ·have t0:=H0.o hps;go_enter func197,ntmps197
  go_wp2_with fail
  go_loopg [8] (r.length+1) (fun gk iv wr=>∃ k:Nat,iv=.int .i64 (P+k:Nat)∧k≤r.length∧yK (wr=wo)∧r.length+1 - k≤gk)
  case atStart=>exact ⟨0,rfl,aO _,hf.o.symm,yQ⟩
  case round=>
   obtain ⟨k,rfl,hk,HW,hgk⟩:=hrel;obtain ⟨p,ha⟩:∃ p,p=P+k:=⟨_,rfl⟩;rw [←ha];try clear hpsi
   try clear hps
   try clear t0
   by_cases hkl:k < r.length
   ·have hp:p < data.size:=yY;have hq:(p:Int) < (data.size:Int):=yY;have hc:data[p]=r[k]:=(hi.o k p yV ha hp).trans (cI hkl);have hn:=HR.o r[k] (aL hkl);rw [←hc] at hn;have n34:((data[p].toNat:Int) != 34)=true:=Q7z _ 34 hn.1;have n44:((data[p].toNat:Int) != 44)=true:=Q7z _ 44 hn.2.1;have n10:((data[p].toNat:Int) != 10)=true:=Q7z _ 10 hn.2.2;have hm:yK ((p:Int)+1=((P+(k+1):Nat):Int)):=(by show _=_;omega);clear hc hn ha;go_wp2_with fail
    rw [hm.o];go_roundg (r.length - k)
    case measure=>omega
    case rel=>exact ⟨k+1,rfl,hkl,HW.o,yY⟩
   ·obtain rfl:k=r.length:=yY;have hb:yK ((p:Nat)=P+r.length):=ha;have he:=HL.o;rcases HS.o with rfl | ⟨c,q,rfl,hcc⟩
    ·have hl:(p:Int)=(data.size:Int):=(by simp at he;omega);have ht:¬ (p:Int) < (data.size:Int):=yY;have ho:((p:Int)==(data.size:Int))=true:=(by rw [cM];exact hl);clear ha hl he;go_wp2_with fail
     go_quiet (fail)
     go_wp2_with fail
     go_ret3
     rw [hg.o];refine ⟨?_,by rw [(HW.o.trans hf.o)];exact Q1 (aB _ _) _⟩;show Ending.returned (.tuple #[.int .i64 (p:Nat),.bool false,.bool true])=_;rw [hb.o]
    ·simp at he;have hp:p < data.size:=yY;have hq:(p:Int) < (data.size:Int):=yY;have ho:((p:Int)==(data.size:Int))=false:=(by rw [aI];omega);have hc:data[p]=c:=(hi.o r.length p yW ha hp).trans (by rw [bK yQ];simp);rcases hcc with rfl | rfl
     ·have e44:((data[p].toNat:Int)==44)=true:=(by rw [hc];rfl);have n34:((data[p].toNat:Int) != 34)=true:=(by rw [hc];rfl);have n44:((data[p].toNat:Int) != 44)=false:=(by rw [hc];rfl);clear hc ha he;go_wp2_with fail
      go_quiet (fail)
      go_wp2_with fail
      go_ret3
      rw [hg.o];refine ⟨?_,by rw [(HW.o.trans hf.o)];exact Q1 (aB _ _) _⟩;show Ending.returned (.tuple #[.int .i64 (p:Nat),.bool false,.bool true])=_;rw [hb.o]
     ·have e44:((data[p].toNat:Int)==44)=false:=(by rw [hc];rfl);have e10:((data[p].toNat:Int)==10)=true:=(by rw [hc];rfl);have n34:((data[p].toNat:Int) != 34)=true:=(by rw [hc];rfl);have n44:((data[p].toNat:Int) != 44)=true:=(by rw [hc];rfl);have n10:((data[p].toNat:Int) != 10)=false:=(by rw [hc];rfl);clear hc ha he;go_wp2_with fail
      go_quiet (fail)
      go_wp2_with fail
      go_ret3
      rw [hg.o];refine ⟨?_,by rw [(HW.o.trans hf.o)];exact Q1 (aB _ _) _⟩;show Ending.returned (.tuple #[.int .i64 (p:Nat),.bool false,.bool true])=_;rw [hb.o]
 ·go_enter func197,ntmps197
  go_wp2_with fail
  go_loopg [8] (r.length+1) (fun gk iv wr=>∃ k:Nat,iv=.int .i64 (P+k:Nat)∧k≤r.length∧yK (wr=wo)∧r.length+1 - k≤gk)
  case atStart=>exact ⟨0,rfl,aO _,hf.o.symm,yQ⟩
  case round=>
   obtain ⟨k,rfl,hk,HW,hgk⟩:=hrel;obtain ⟨p,ha⟩:∃ p,p=P+k:=⟨_,rfl⟩;rw [←ha];try clear hpsi
   try clear hps
   try clear t0
   by_cases hkl:k < r.length
   ·have hp:p < data.size:=yY;have hq:(p:Int) < (data.size:Int):=yY;have hc:data[p]=r[k]:=(hi.o k p yV ha hp).trans (cI hkl);have hn:=HR.o r[k] (aL hkl);rw [←hc] at hn;have n34:((data[p].toNat:Int) != 34)=true:=Q7z _ 34 hn.1;have n44:((data[p].toNat:Int) != 44)=true:=Q7z _ 44 hn.2.1;have n10:((data[p].toNat:Int) != 10)=true:=Q7z _ 10 hn.2.2;have hm:yK ((p:Int)+1=((P+(k+1):Nat):Int)):=(by show _=_;omega);clear hc hn ha;go_wp2_with fail
    rw [hm.o];go_roundg (r.length - k)
    case measure=>omega
    case rel=>exact ⟨k+1,rfl,hkl,HW.o,yY⟩
   ·obtain rfl:k=r.length:=yY;have hb:yK ((p:Nat)=P+r.length):=ha;have he:=HL.o;rcases HS.o with rfl | ⟨c,q,rfl,hcc⟩
    ·have hl:(p:Int)=(data.size:Int):=(by simp at he;omega);have ht:¬ (p:Int) < (data.size:Int):=yY;have ho:((p:Int)==(data.size:Int))=true:=(by rw [cM];exact hl);clear ha hl he;go_wp2_with fail
     go_quiet (fail)
     go_wp2_with fail
     go_ret3
     rw [hg.o];refine ⟨?_,by rw [(HW.o.trans hf.o)];exact Q1 (aB _ _) _⟩;show Ending.returned (.tuple #[.int .i64 (p:Nat),.bool false,.bool true])=_;rw [hb.o]
    ·simp at he;have hp:p < data.size:=yY;have hq:(p:Int) < (data.size:Int):=yY;have ho:((p:Int)==(data.size:Int))=false:=(by rw [aI];omega);have hc:data[p]=c:=(hi.o r.length p yW ha hp).trans (by rw [bK yQ];simp);rcases hcc with rfl | rfl
     ·have e44:((data[p].toNat:Int)==44)=true:=(by rw [hc];rfl);have n34:((data[p].toNat:Int) != 34)=true:=(by rw [hc];rfl);have n44:((data[p].toNat:Int) != 44)=false:=(by rw [hc];rfl);clear hc ha he;go_wp2_with fail
      go_quiet (fail)
      go_wp2_with fail
      go_ret3
      rw [hg.o];refine ⟨?_,by rw [(HW.o.trans hf.o)];exact Q1 (aB _ _) _⟩;show Ending.returned (.tuple #[.int .i64 (p:Nat),.bool false,.bool true])=_;rw [hb.o]
     ·have e44:((data[p].toNat:Int)==44)=false:=(by rw [hc];rfl);have e10:((data[p].toNat:Int)==10)=true:=(by rw [hc];rfl);have n34:((data[p].toNat:Int) != 34)=true:=(by rw [hc];rfl);have n44:((data[p].toNat:Int) != 44)=true:=(by rw [hc];rfl);have n10:((data[p].toNat:Int) != 10)=false:=(by rw [hc];rfl);clear hc ha he;go_wp2_with fail
      go_quiet (fail)
      go_wp2_with fail
      go_ret3
      rw [hg.o];refine ⟨?_,by rw [(HW.o.trans hf.o)];exact Q1 (aB _ _) _⟩;show Ending.returned (.tuple #[.int .i64 (p:Nat),.bool false,.bool true])=_;rw [hb.o]
theorem V7x (data:fY) (pre q s:List UInt8) (w:World) (hd:data.data.toList=pre++(34::(q++34::s))) (hq:M6 (q++34::s)=q.length) (hs:FdEnd s) (hsz:data.size≤65536):
 Calls prog 197 #[.string data,.int .i64 (pre.length:Nat)] w (Q9i (pre.length+q.length+2) true w):=by
 obtain ⟨R,hl⟩:∃ R:Ending→World→Prop,yK (R=Q9i (pre.length+q.length+2) true w):=⟨_,rfl⟩;rw [←hl.o];have hh:data.size=pre.length+1+(q.length+1+s.length):=(by rw [aC,hd];simp;omega);have hA:=zW (fun h=>show ((data[pre.length].toNat:Int)==34)=true by rw [M5 data pre (34::(q++34::s)) hd 0 pre.length yW rfl h];rfl);have hi:=zW (M5 data (pre++[34]) (q++34::s) (by rw [hd];simp));have hy:(pre++[(34:UInt8)]).length=pre.length+1:=yW;rw [hy] at hi;clear hy;have hu:(q++34::s).length=q.length+1+s.length:=yV;have H0:yK (0+M6 ((q++34::s).drop 0)=q.length):=(by show _=_;rw [cO,bI];exact hq);have hr:yK (∀ h:q.length < (q++34::s).length,s=[]→(q++34::s).length=q.length+1):=fun _ e=>by rw [hu,e];rfl
 have ho:yK (∀ c r,s=c::r→∀ h:q.length+1 < (q++34::s).length,(q++34::s)[q.length+1]=c):=fun c r e h=>by
  subst e;rw [bK yY];simp
 have HS:=zW hs;clear hd hq hs;generalize hP:pre.length=P at *;clear hP;generalize hL:q++34::s=L at *;clear hL;generalize hE:q.length=E at *;clear hE;have hG:(P:Int) < (data.size:Int):=yY;have hF:P < data.size:=yY;have t0:=hA.o hF;have hj:=zW hh;have hg:=zW hu;clear hh hu;obtain ⟨wo,hm⟩:∃ wo,yK (wo=w):=⟨w,rfl⟩;go_enter func197,ntmps197
 go_wp2_with fail
 rw [show (P:Int)+1=((P+1+0:Nat):Int) by omega];go_loopg [8] (E+1) (fun gk iv wr=>∃ k:Nat,iv=.int .i64 (P+1+k:Nat)∧k≤E∧yK (k+M6 (L.drop k)=E)∧yK (wr=wo)∧E+1 - k≤gk)
 case atStart=>exact ⟨0,rfl,aO _,H0.o,hm.o.symm,yQ⟩
 case round=>
  obtain ⟨k,rfl,hk,HK,HW,hgk⟩:=hrel;clear H0;obtain ⟨p,he⟩:∃ p,p=P+1+k:=⟨_,rfl⟩;rw [←he];have hn:k < L.length:=(by have:=hg.o;omega);have hp:p < data.size:=(by have:=hg.o;have:=hj.o;omega);have hH:(p:Int) < (data.size:Int):=yY;have hc:=hi.o k p hn he hp;by_cases h34:L[k]=34
  ·have t1:((data[p].toNat:Int) != 34)=false:=(by rw [hc,h34];rfl);have t1b:((data[p].toNat:Int)==34)=true:=(by rw [hc,h34];rfl);rcases Z4y L k hn h34 with ⟨h1,h2,h3⟩ | ⟨h2,h3⟩
   ·have hw:p+1 < data.size:=(by have:=hg.o;have:=hj.o;omega);have hx:(p:Int)+1 < (data.size:Int):=yY;have ha:=hi.o (k+1) (p+1) h1 yY hw;have t2:((data[p+1].toNat:Int)==34)=true:=(by rw [ha,h2];rfl);have hf:yK (k+2+M6 (L.drop (k+2))=E):=(by show _=_;have:=HK.o;omega);have hv:k+2≤E:=(by have:=hf.o;omega);have ht:yK ((p:Int)+1+1=((P+1+(k+2):Nat):Int)):=(by show _=_;omega);clear hc ha he h34 h2;go_wp2_with fail
    rw [ht.o];go_roundg (E+1 - (k+2))
    case measure=>omega
    case rel=>exact ⟨k+2,rfl,hv,hf.o,HW.o,yQ⟩
   ·have hD:k=E:=(by have:=HK.o;omega);subst hD;have hb:yK ((p:Int)+1=((P+k+2:Nat):Int)):=(by show _=_;omega);rcases HS.o with rfl | ⟨c,r,rfl,hcc⟩
    ·have hz:p+1=data.size:=(by have:=hr.o hn rfl;have:=hj.o;simp at this;omega);have hJ:¬ (p:Int)+1 < (data.size:Int):=yY;have hC:¬ (data.size:Int)≤(p:Int):=yY;have hB:((p:Int)+1==(data.size:Int))=true:=(by rw [cM];omega);have hI:=zW hz;clear hc he h34 h2 hz;go_wp2_with fail
     go_quiet (fail)
     go_wp2_with fail
     go_ret3
     rw [hl.o];refine ⟨?_,by rw [(HW.o.trans hm.o)];exact Q1 (aB _ _) _⟩;show Ending.returned (.tuple #[.int .i64 ((p:Int)+1),.bool true,.bool true])=_;rw [hb.o]
    ·have h1:k+1 < L.length:=(by have:=hg.o;simp at this;omega);have hw:p+1 < data.size:=(by have:=hg.o;have:=hj.o;omega);have hx:(p:Int)+1 < (data.size:Int):=yY;have ha:=(hi.o (k+1) (p+1) h1 yY hw).trans (ho.o c r rfl h1);have hC:¬ (data.size:Int)≤(p:Int):=yY;have hB:((p:Int)+1==(data.size:Int))=false:=(by rw [aI];omega);rcases hcc with rfl | rfl
     ·have t2:((data[p+1].toNat:Int)==34)=false:=(by rw [ha];rfl);have e44:((data[p+1].toNat:Int)==44)=true:=(by rw [ha];rfl);clear hc ha he h34 h2;go_wp2_with fail
      go_quiet (fail)
      go_wp2_with fail
      go_ret3
      rw [hl.o];refine ⟨?_,by rw [(HW.o.trans hm.o)];exact Q1 (aB _ _) _⟩;show Ending.returned (.tuple #[.int .i64 ((p:Int)+1),.bool true,.bool true])=_;rw [hb.o]
     ·have t2:((data[p+1].toNat:Int)==34)=false:=(by rw [ha];rfl);have e44:((data[p+1].toNat:Int)==44)=false:=(by rw [ha];rfl);have e10:((data[p+1].toNat:Int)==10)=true:=(by rw [ha];rfl);clear hc ha he h34 h2;go_wp2_with fail
      go_quiet (fail)
      go_wp2_with fail
      go_ret3
      rw [hl.o];refine ⟨?_,by rw [(HW.o.trans hm.o)];exact Q1 (aB _ _) _⟩;show Ending.returned (.tuple #[.int .i64 ((p:Int)+1),.bool true,.bool true])=_;rw [hb.o]
  ·have t1:((data[p].toNat:Int) != 34)=true:=by
    rw [hc,dZ];intro e;exact h34 (cN.1 (by exact_mod_cast e))
   have t1b:((data[p].toNat:Int)==34)=false:=(by rw [hc];exact Y2 _ 34 h34);have hf:yK (k+1+M6 (L.drop (k+1))=E):=(by show _=_;have:=HK.o;have:=Y1t L k hn h34;omega);have hv:k+1≤E:=(by have:=hf.o;omega);have ht:yK ((p:Int)+1=((P+1+(k+1):Nat):Int)):=(by show _=_;omega);clear hc he h34;go_wp2_with fail
   rw [ht.o];go_roundg (E+1 - (k+1))
   case measure=>omega
   case rel=>exact ⟨k+1,rfl,hv,hf.o,HW.o,yQ⟩
theorem Z5h (data:fY) (pre s:List UInt8) (f:Fd) (w:World) (hd:data.data.toList=pre++(f.raw++s)) (hf:X6q f) (hs:FdEnd s) (hsz:data.size≤65536):
 Calls prog 197 #[.string data,.int .i64 (pre.length:Nat)] w (Q9i (pre.length+f.raw.length) f.quo w):=by
 obtain ⟨raw,quo⟩:=f;unfold X6q at hf;cases quo with
 | false=>exact V2q data pre raw s w hd hf hs hsz
 | true=>
   obtain ⟨q,h1,h2⟩:=hf;simp only at h1 hd ⊢;subst h1;have:=V7x data pre q s w (by rw [hd];simp) (h2 s hs.no34) hs hsz;rw [show pre.length+(34::(q++[34])).length=pre.length+q.length+2 by simp;omega];exact this
theorem Z2w (data:fY) (pre l:List UInt8) (w:World) (hd:data.data.toList=pre++l) (he:P7 l < l.length) (hsz:data.size≤65536):
 Calls prog 194 #[.string data,.int .i64 (pre.length:Nat),.bool true] w fun e w'=>e=.returned (.int .i64 (pre.length+P7 l:Nat))∧w=w':=by
 obtain ⟨R,hi⟩:∃ R:Ending→World→Prop,yK (R=fun e w'=>e=.returned (.int .i64 (pre.length+P7 l:Nat))∧w=w'):=⟨_,rfl⟩;rw [←hi.o];have hh:data.size=pre.length+l.length:=(by rw [aC,hd,aA]);have ho:=zW (fun (k p:Nat) (h:k < l.length) (hp:p=pre.length+k) (h2:p < data.size)=>show data[p]=l[k] by
  subst hp;have h3:(pre++l)[pre.length+k]'yV=l[k]:=(by rw [bK yY];simp);have h4:data.data.toList[pre.length+k]'(by rw [hd];simp;omega)=l[k]:=(by simp only [hd];exact h3);exact h4)
 obtain ⟨wo,hj⟩:∃ wo,yK (wo=w):=⟨w,rfl⟩;have H0:yK (0+P7 (l.drop 0)=P7 l):=(by show _=_;rw [cO,bI]);generalize P7 l=E at *;have hl:pre.length+l.length≤data.size:=yY;clear hd hh;go_enter func194,ntmps194
 go_wp2_with fail
 go_loopg [1] (E+1) (fun gk iv wr=>∃ k:Nat,iv=.int .i64 (pre.length+k:Nat)∧k≤E∧yK (k+P7 (l.drop k)=E)∧yK (wr=wo)∧E+1 - k≤gk)
 case atStart=>exact ⟨0,rfl,aO _,H0.o,hj.o.symm,yQ⟩
 case round=>
  obtain ⟨k,rfl,hk,HK,HW,hgk⟩:=hrel;clear H0;have hc:k < l.length:=yY;obtain ⟨p,hf⟩:∃ p,p=pre.length+k:=⟨_,rfl⟩;rw [←hf];have hp:p < data.size:=yY;have ha:=ho.o k p hc hf hp;have HP:=zW hf;clear hf;have hs:p+1≤data.size:=yY;by_cases h10:l[k]=10
  ·have hz:=Z4z l k hc h10;have hq:k=E:=(by have:=HK.o;omega);have t1:((data[p].toNat:Int) != 10)=false:=(by rw [ha,h10];rfl);have t2:((data[p].toNat:Int)==10)=true:=(by rw [ha,h10];rfl);subst hq;have hr:min (p:Int) (data.size:Int)=(p:Int):=yY;have hm:(p:Int) < (data.size:Int):=yY;have hn:(p:Int)≤(data.size:Int):=yY;clear ha h10 hz HK;go_wp2_with fail
   first | go_ret | skip
   rw [hi.o];refine ⟨?_,(HW.o.trans hj.o).symm⟩;show Ending.returned (.int .i64 (p:Int))=_;rw [HP.o]
  ·have t1:((data[p].toNat:Int) != 10)=true:=by
    rw [ha,dZ];intro e;exact h10 (cN.1 (by exact_mod_cast e))
   have t2:((data[p].toNat:Int)==10)=false:=by
    rw [ha,aI];intro e;exact h10 (cN.1 (by exact_mod_cast e))
   by_cases h92:l[k]=92
   ·obtain ⟨s1,s2⟩:=Z5a l k hc h92 (by rw [HK.o];exact he);have t3:((data[p].toNat:Int)==92)=true:=(by rw [ha,h92];rfl);have hb:yK (k+2+P7 (l.drop (k+2))=E):=s2.trans HK.o;have hg:k+2≤E:=(by have:=hb.o;omega);have HS:yK ((p:Int)+1+1=((pre.length+(k+2):Nat):Int)):=(by show _=_;have:=HP.o;omega);clear ha h10 h92 s2;go_wp2_with fail
    rw [HS.o];go_roundg (E+1 - (k+2))
    case measure=>omega
    case rel=>exact ⟨k+2,rfl,hg,hb.o,HW.o,yQ⟩
   ·have t3:((data[p].toNat:Int)==92)=false:=by
     rw [ha,aI];intro e;exact h92 (cN.1 (by exact_mod_cast e))
    have hb:yK (k+1+P7 (l.drop (k+1))=E):=(Y1u l k hc h10 h92).trans HK.o;have hg:k+1≤E:=(by have:=hb.o;omega);have HS:yK ((p:Int)+1=((pre.length+(k+1):Nat):Int)):=(by show _=_;have:=HP.o;omega);clear ha h10 h92;go_wp2_with fail
    rw [HS.o];go_roundg (E+1 - (k+1))
    case measure=>omega
    case rel=>exact ⟨k+1,rfl,hg,hb.o,HW.o,yQ⟩
theorem Z2v (data:fY) (pre l r:List UInt8) (w:World) (hd:data.data.toList=pre++(l++10::r)) (hl:∀ c∈l,c≠10) (hsz:data.size≤65536):
 Calls prog 194 #[.string data,.int .i64 (pre.length:Nat),.bool false] w fun e w'=>e=.returned (.int .i64 (pre.length+l.length:Nat))∧w=w':=by
 obtain ⟨R,hb⟩:∃ R:Ending→World→Prop,yK (R=fun e w'=>e=.returned (.int .i64 (pre.length+l.length:Nat))∧w=w'):=⟨_,rfl⟩;rw [←hb.o];have ho:pre.length+l.length+1≤data.size:=(by rw [aC,hd];simp;omega);have hi:=zW (M5 data pre (l++10::r) hd);have HL:=zW hl;have hg:(l++10::r).length=l.length+1+r.length:=yV;have hj:=zW hg;clear hd hl hg;obtain ⟨wo,he⟩:∃ wo,yK (wo=w):=⟨w,rfl⟩;go_enter func194,ntmps194
 go_wp2_with fail
 go_loopg [1] (l.length+1) (fun gk iv wr=>∃ k:Nat,iv=.int .i64 (pre.length+k:Nat)∧k≤l.length∧yK (wr=wo)∧l.length+1 - k≤gk)
 case atStart=>exact ⟨0,rfl,aO _,he.o.symm,yQ⟩
 case round=>
  obtain ⟨k,rfl,hk,HW,hgk⟩:=hrel;obtain ⟨p,ha⟩:∃ p,p=pre.length+k:=⟨_,rfl⟩;rw [←ha];have hp:p < data.size:=yY;have hr:(p:Int) < (data.size:Int):=yY;have hc:=hi.o k p (by rw [hj.o];omega) ha hp;by_cases hkl:k < l.length
  ·rw [cI hkl] at hc;have hn:=HL.o l[k] (aL hkl);rw [←hc] at hn;have n10:((data[p].toNat:Int) != 10)=true:=Q7z _ 10 hn;have hm:yK ((p:Int)+1=((pre.length+(k+1):Nat):Int)):=(by show _=_;omega);clear hc hn ha;go_wp2_with fail
   rw [hm.o];go_roundg (l.length - k)
   case measure=>omega
   case rel=>exact ⟨k+1,rfl,hkl,HW.o,yY⟩
  ·obtain rfl:k=l.length:=yY;have hf:data[p]=10:=hc.trans (by rw [bK yQ];simp);have n10:((data[p].toNat:Int) != 10)=false:=(by rw [hf];rfl);have HP:=zW ha;have hh:(p:Int)≤(data.size:Int):=yY;have hq:min (p:Int) (data.size:Int)=(p:Int):=yY;clear hc hf ha;go_wp2_with fail
   first | go_ret | skip
   rw [hb.o];refine ⟨?_,(HW.o.trans he.o).symm⟩;show Ending.returned (.int .i64 (p:Int))=_;rw [HP.o]
theorem Y2r (c:UInt8) (w:World):Calls prog 195 #[.int .u8 (c.toNat:Int)] w fun e w'=>e=.returned (.bool (Q1h c))∧w=w':=by
 obtain ⟨b,hb⟩:∃ b,yK (Q1h c=b):=⟨_,rfl⟩;have hc:=c.toNat_lt;rw [hb.o];have ha:b=decide ((97≤c.toNat∧c.toNat≤122)∨(48≤c.toNat∧c.toNat≤57)∨c.toNat=46∨c.toNat=95∨c.toNat=45):=hb.o.symm;clear hb;generalize c.toNat=n at *;rcases (show (97≤n∧n≤122)∨(122 < n)∨(n < 97∧57 < n∧n≠95)∨n=95∨(48≤n∧n≤57)∨n=46∨n=45∨(n < 48∧n≠46∧n≠45) by omega) with h | h | h | h | h | h | h | h
 ·obtain rfl:b=true:=by rw [ha];first | (exact cR yY) | (exact cD yY)
  have a1:(97:Int)≤(n:Int):=yY;have a2:(n:Int)≤122:=yY;clear ha h;go_enter func195,ntmps195
  go_wp2_with fail
  first | go_ret | skip
  exact ⟨rfl,rfl⟩
 ·obtain rfl:b=false:=by rw [ha];first | (exact cR yY) | (exact cD yY)
  have a1:(97:Int)≤(n:Int):=yY;have a2:¬ (n:Int)≤122:=yY;have a3:(48:Int)≤(n:Int):=yY;have a4:¬ (n:Int)≤57:=yY;have a5:((n:Int)==46)=false:=(by rw [aI];omega);have a6:((n:Int)==95)=false:=(by rw [aI];omega);have a7:((n:Int)==45)=false:=(by rw [aI];omega);clear ha h;go_enter func195,ntmps195
  go_wp2_with fail
  first | go_ret | skip
  exact ⟨rfl,rfl⟩
 ·obtain rfl:b=false:=by rw [ha];first | (exact cR yY) | (exact cD yY)
  have a1:¬ (97:Int)≤(n:Int):=yY;have a3:(48:Int)≤(n:Int):=yY;have a4:¬ (n:Int)≤57:=yY;have a5:((n:Int)==46)=false:=(by rw [aI];omega);have a6:((n:Int)==95)=false:=(by rw [aI];omega);have a7:((n:Int)==45)=false:=(by rw [aI];omega);clear ha h;go_enter func195,ntmps195
  go_wp2_with fail
  first | go_ret | skip
  exact ⟨rfl,rfl⟩
 ·obtain rfl:b=true:=by rw [ha];first | (exact cR yY) | (exact cD yY)
  subst h;clear ha;go_enter func195,ntmps195
  go_wp2_with fail
  first | go_ret | skip
  exact ⟨rfl,rfl⟩
 ·obtain rfl:b=true:=by rw [ha];first | (exact cR yY) | (exact cD yY)
  have a1:¬ (97:Int)≤(n:Int):=yY;have a3:(48:Int)≤(n:Int):=yY;have a4:(n:Int)≤57:=yY;clear ha h;go_enter func195,ntmps195
  go_wp2_with fail
  first | go_ret | skip
  exact ⟨rfl,rfl⟩
 ·obtain rfl:b=true:=by rw [ha];first | (exact cR yY) | (exact cD yY)
  subst h;clear ha;go_enter func195,ntmps195
  go_wp2_with fail
  first | go_ret | skip
  exact ⟨rfl,rfl⟩
 ·obtain rfl:b=true:=by rw [ha];first | (exact cR yY) | (exact cD yY)
  subst h;clear ha;go_enter func195,ntmps195
  go_wp2_with fail
  first | go_ret | skip
  exact ⟨rfl,rfl⟩
 ·obtain rfl:b=false:=by rw [ha];first | (exact cR yY) | (exact cD yY)
  have a1:¬ (97:Int)≤(n:Int):=yY;have a3:¬ (48:Int)≤(n:Int):=yY;have a5:((n:Int)==46)=false:=(by rw [aI];omega);have a6:((n:Int)==95)=false:=(by rw [aI];omega);have a7:((n:Int)==45)=false:=(by rw [aI];omega);clear ha h;go_enter func195,ntmps195
  go_wp2_with fail
  first | go_ret | skip
  exact ⟨rfl,rfl⟩
theorem V9l (ps:List Pt) (A:Option Addr) (c:Nat) (key:fY) (w:World) (h:RdE ptC 3 w (.slice A ps.length c) ps) (hl:ps.length≤100000) (hn:∀ p∈ps,p.un=true→(p.key.toList==key.toList)=false):
 Calls prog 196 #[.slice A ps.length c,.string key] w fun e w'=>e=.returned (.bool false)∧w=w':=by
 obtain ⟨R,hd⟩:∃ R:Ending→World→Prop,yK (R=fun e w'=>e=.returned (.bool false)∧w=w'):=⟨_,rfl⟩;rw [←hd.o];have HP:=zW h;have HN:=zW hn;clear h hn;obtain ⟨wo,hc⟩:∃ wo,yK (wo=w):=⟨w,rfl⟩;go_enter func196,ntmps196
 go_wp2_with fail
 go_loopg [8] ps.length (fun gk iv wr=>∃ k:Nat,iv=.int .i64 k∧k≤ps.length∧yK (wr=wo)∧ps.length - k≤gk)
 case atStart=>exact ⟨0,rfl,aO _,hc.o.symm,yQ⟩
 case round=>
  obtain ⟨k,rfl,hk,HW,hgk⟩:=hrel;rw [←hc.o,←HW.o] at HP;by_cases hlt:k < ps.length
  ·obtain ⟨b,o,rfl,hb,c0,c1,c2⟩:=RdP.at_ HP.o k hlt;have ha:=aL hlt;have hn:=HN.o _ ha;have he:(k:Int) < (ps.length:Int):=yY;generalize ps[k]=x at c0 c1 c2 hn;clear ha;cases hun:x.un with
   | false=>
     rw [hun] at c0;clear hn hun;go_wp2_with fail
     go_roundg (ps.length - (k+1))
     case measure=>omega
     case rel=>exact ⟨k+1,rfl,hlt,HW.o,yQ⟩
   | true=>
     rw [hun] at c0;have t1:=hn hun;clear hn hun;go_wp2_with fail
     go_roundg (ps.length - (k+1))
     case measure=>omega
     case rel=>exact ⟨k+1,rfl,hlt,HW.o,yQ⟩
  ·obtain rfl:k=ps.length:=yY;go_wp2_with fail
   first | go_ret | skip
   rw [hd.o];exact ⟨rfl,(HW.o.trans hc.o).symm⟩
theorem Y7h (data:fY) (sub:List UInt8) (p n:Nat) (w:World) (h:Lib.index (data.data.toList.drop p) sub=(n:Int)) (ht:0 < sub.length) (hsz:data.size≤1000000) (hts:sub.length≤1000000):
 Calls prog 174 #[.string data,.string (ofL sub),.int .i64 p] w fun e w'=>e=.returned (.int .i64 (p+n:Nat))∧w=w':=
 Q4f data (ofL sub) p n w (by simpa [ofL] using h) (by rw [Q6];exact ht) hsz (by rw [Q6];exact hts)
theorem V0q (t:List UInt8) (h:V6r t) (s:fY) (r:List UInt8) (hs:s.data.toList=60::t++62::r) (hsz:s.size≤1000000):
 ∃ (k:Int) (u:fY),u.size≤64∧U4 (Z0 u.data.toList)=false∧∀ w,Calls prog 135 #[.string s] w (El7 k u (t.length+2) w):=by
 rcases h with ⟨h1,h2⟩ | ⟨u,rfl,h1,h2⟩
 ·refine ⟨2,ofL t,by rw [Q6];exact (J0 t h1).1,by simpa [ofL] using h2,fun w=>?_⟩;have:=X2t s (ofL t) r w (by rw [hs];simp [ofL]) hsz (by simpa [ofL] using h1);rwa [Q6] at this
 ·refine ⟨4,ofL u,by rw [Q6];exact (J0 u h1).1,by simpa [ofL] using h2,fun w=>?_⟩;have:=Z0n s (ofL u) r w (by rw [hs];simp [ofL]) hsz (by simpa [ofL] using h1);rw [Q6] at this;have e:(u++[(47:UInt8)]).length+2=u.length+3:=yW;rw [e];exact this
theorem Y9t (data:fY) (ms:List MK) (w:World) (hd:data.data.toList=X7 ms) (hok:∀ x∈ms,Y0h x) (hk:Q0b 0 ms) (ht:E6 ms≤8) (hsz:data.size≤65536):
 Calls prog 168 #[.string data] w (D6 (P9 (Y8 ms).1 (Y8 ms).2) w):=by
 obtain ⟨R,Hk⟩:∃ R:Ending→World→Prop,yK (R=D6 (P9 (Y8 ms).1 (Y8 ms).2) w):=⟨_,rfl⟩;rw [←Hk.o];have HD:=zW hd;have HF:=zW hok;have HK:=zW hk;have Hi:=zW ht;have hT:yK (BlD w.heap.size w.heap.size data 0 (.slice none 0 0) [] (w.alloc (.cells #[.string data,.slice none 0 0,.int .i64 0] 269))):=⟨aY,OwnE.nil,yQ⟩;have hQ:=zW ((aB w.heap.size w).alloc yQ (.cells #[.string data,.slice none 0 0,.int .i64 0] 269));obtain ⟨g,hg⟩:∃ g,yK (g=w.heap.size):=⟨_,rfl⟩;clear hd hok hk ht;go_enter func168,ntmps168
 go_wp2_with fail
 generalize w.alloc (.cells #[.string data,.slice none 0 0,.int .i64 0] 269)=w0 at hT hQ ⊢;have hw:yK (BlD w.heap.size g data 0 (.slice none 0 0) [] w0):=(by show BlD _ _ _ _ _ _ _;rw [hg.o];exact hT.o);rw [←hg.o];go_loopg [6,7] ms.length (fun gk av bv wr=>∃ dn td,yK (ms=dn++td)∧av=.int .i64 ((X7 dn).length:Nat)∧bv=.int .i64 (E6 dn:Nat)∧(∃ lv,yK (BlD w.heap.size g data (Z4 (Y8 dn).1).length lv (P1 (Y8 dn).1) wr))∧yK (Below w.heap.size w wr)∧td.length≤gk)
 case atStart=>exact ⟨[],ms,rfl,rfl,rfl,⟨_,hw.o⟩,hQ.o,yQ⟩
 case round=>
  obtain ⟨dn,td,HE,rfl,rfl,⟨lv,HP⟩,HB,hgk⟩:=hrel;clear hT hQ hw;cases td with
  | nil=>
    have he:ms=dn:=(by have:=HE.o;rwa [aX] at this);subst he;have Ha:(X7 ms).length=data.size:=(by rw [aC,HD.o]);have hG:=C6 (Y8 ms).1;have hC:(Z4 (Y8 ms).1).length≤data.size:=by
     rw [←Ha,Q0o,aA];omega
    have hZ:=Hi.o;rw [R7] at hG;have hL:data.extract (Z4 (Y8 ms).1).length data.size=ofL (Y8 ms).2:=B7 _ _ _ (by rw [HD.o,Q0o]);have HC:=zW (X7l HP.o hC yY yY);rw [hL,show (⟨#[]⟩:fY)=ofL [] from rfl,←Q5t] at HC;clear hL hC hG hZ;rw [Ha];clear Ha;go_wp2_with (go_at_call 193;refine (HC.o).mono ?_;rintro e w1 ⟨v,rfl,ho,hj⟩;have HO:=zW ho;have hl:=zW (HB.o.trans hj);obtain ⟨A,c,rfl⟩:=Q0 ho;clear ho hj)
    go_ret3
    rw [Hk.o];exact ⟨_,rfl,HO.o,hl.o⟩
  | cons x td=>
    have hx:=HF.o x (by rw [HE.o];simp);have hM:=Q0k dn (x::td) 0 (by rw [←HE.o];exact HK.o);have ha:data.data.toList=X7 dn++(Y5 x++X7 td):=(by rw [HD.o,HE.o,Q7n];rfl);have hp:(X7 dn).length+(Y5 x).length+(X7 td).length=data.size:=(by rw [aC,ha];simp;omega);have hN:0 < (Y5 x).length:=by cases x<;>simp [Y5,Y8m]
    have hL:data.extract (X7 dn).length data.size=ofL (Y5 x++X7 td):=B7 _ _ _ ha;have Hd:dn++[x]++td=dn++x::td:=yW;have hO:X7 (dn++[x])=X7 dn++Y5 x:=(by rw [Q7n];simp [X7]);have ij:((X7 dn).length:Int) < (data.size:Int):=yY;have ie:(X7 dn).length < data.size:=yY;have ig:(X7 dn).length≤data.size:=yY;have HM:td.length+1≤gk:=hgk;have hn:∀ c l,Y5 x=c::l→data[(X7 dn).length]=c:=fun c l e=>by
     have:=M5 data (X7 dn) (Y5 x++X7 td) ha 0 (X7 dn).length (by rw [e];simp) rfl ie;rw [this];simp [e]
    have hf:yK (((X7 dn).length:Int)+((Y5 x).length:Int)=((X7 (dn++[x])).length:Nat)):=(by show _=_;rw [hO,aA];simp);have hJ:yK (ms=dn++[x]++td):=(by show _=_;rw [Hd];exact HE.o);have Hq:(Y5 x).length≤65536:=yY;have Hg:(X7 dn).length+(Y5 x).length≤data.size:=yY;by_cases hb:∃ t k ts,x=.blk t k ts
    ·obtain ⟨t,key,ts,rfl⟩:=hb;obtain ⟨hc,ht,hs⟩:=hx;obtain ⟨hD,Hc,_⟩:=hM;have Ho:=hn 60 _ rfl;have n60:((data[(X7 dn).length].toNat:Int) != 60)=false:=(by rw [Ho];rfl);have hP:(ofL (Y5 (.blk t key ts)++X7 td)).size≤1000000:=(by rw [Q6,aA];omega);obtain ⟨d,q,hA,Hp⟩:=G3 t hc;have Hs:∀ X,Lib.hasPrefix (60::(t++X)) [60,33,45,45]=false:=fun X=>by
      rw [hA];exact X1w d (q++X) (T8 d Hp 33 yW)
     have CB:=zW (fun W=>G4 (ofL (Y5 (.blk t key ts)++X7 td)) (⟨#[60,33,45,45]⟩:fY) false (by
      have:=Hs (62::(Q2 ts++G9 t)++X7 td);simpa [ofL,Y5] using this) W yX)
     have CT:=zW (fun W=>X2t (ofL (Y5 (.blk t key ts)++X7 td)) (ofL t) (Q2 ts++(G9 t++X7 td)) W (by simp [ofL,Y5]) hP (by simpa [ofL] using hc));rw [Q6] at CT;have ih:(ofL t).size≤64:=(by rw [Q6];exact (J0 t hc).1);have CN:=zW (fun W=>B8 (ofL t) W yY);rw [show (⟨(M8 (ofL t).data.toList).toArray⟩:fY)=ofL (Z0 t) by simp [ofL];rfl] at CN;have CBL:=zW (fun W=>X9i (ofL (Z0 t)) W (by simpa [ofL] using ht));have HR:(((t.length+2:Nat):Int)==0)=false:=(by rw [aI];omega);have Hw:(Y5 (.blk t key ts)).length=(t.length+2)+(Q2 ts).length+(G9 t).length:=(by simp [Y5];omega);have Hv:(Q2 ts).length≤65536:=yY;have hm:(X7 dn++(60::t++[62])).length=(X7 dn).length+(t.length+2):=yW;have HL:data.extract ((X7 dn).length+(t.length+2)) data.size=ofL (Q2 ts++(G9 t++X7 td)):=by
      have:=B7 data (X7 dn++(60::t++[62])) (Q2 ts++(G9 t++X7 td)) (by rw [ha];simp [Y5]);rw [hm] at this;exact this
     have hW:data.extract ((X7 dn).length+(t.length+2)) ((X7 dn).length+(t.length+2)+(Q2 ts).length)=ofL (Q2 ts):=by
      have:=T0 data (X7 dn++(60::t++[62])) (Q2 ts) (G9 t++X7 td) ((X7 dn).length+(t.length+2)+(Q2 ts).length) (by rw [ha];simp [Y5]) yW;rw [hm] at this;exact this
     have hH:=Q0o dn;have Hm:data.extract (Z4 (Y8 dn).1).length ((X7 dn).length+(t.length+2))=ofL ((Y8 dn).2++(60::t++[62])):=
      T0 data (Z4 (Y8 dn).1) ((Y8 dn).2++(60::t++[62])) (Q2 ts++(G9 t++X7 td)) _ (by rw [ha,hH];simp [Y5]) (by rw [hH];simp;omega)
     have hC:(Z4 (Y8 dn).1).length≤(X7 dn).length+(t.length+2):=(by rw [hH,aA];omega);have Hr:∀ b∈Z0 t,b≠62:=fun b hb=>by
      obtain ⟨r,hr⟩:=X2u t;exact (Q1c _ hc).1 b (by rw [hr];exact aS.2 (.inl hb))
     have hB:data.data.toList.drop ((X7 dn).length+(t.length+2))=Q2 ts++(G9 t++X7 td):=by
      rw [ha,←hm,show X7 dn++(Y5 (.blk t key ts)++X7 td)=(X7 dn++(60::t++[62]))++(Q2 ts++(G9 t++X7 td)) by simp [Y5],dR]
     have CF:=zW (fun W=>Y7h data (G9 t) ((X7 dn).length+(t.length+2)) (Q2 ts).length W (by rw [hB];exact Y4d (Z0 t) Hr ht (X7 td) ts hs.els) (by simp [G9]) yY (by have:=X2v t;have:=(J0 t hc).1;simp [G9];omega));have HA:=zW (fun W=>X2k 1 (.inl rfl) (ofL (Q2 ts)) ts W hs (by simp [ofL]) (by rw [Q6];exact Hv));have hZ:E6 dn+1≤8:=by
      have h1:=Hi.o;have h2:E6 ms=E6 dn+(E6 td+1):=(by rw [HE.o,Q4a];rfl);omega
     have Hj:=zW (fun w=>X9c (E6 dn+1) yY hZ w);rw [show ofL (Lib.decDigits (E6 dn+1))=ofL key by rw [hD,bI],show ((E6 dn+1:Nat):Int)=(E6 dn:Int)+1 from rfl] at Hj;have hG:=C6 (Y8 dn).1;rw [R7] at hG;have HU:=zW (fun (lv:Value) (w':World) (h:BlD w.heap.size g data (Z4 (Y8 dn).1).length lv (P1 (Y8 dn).1) w')=>(X4t ((X7 dn).length+(t.length+2)) ((X7 dn).length+(t.length+2)+(Q2 ts).length) (ofL key) h hC yY yY yY yY).mono fun _ _ ⟨h1,lv',h2,h3,_⟩=>show (∃ v,_=Ending.returned v)∧∃ lv',BlD w.heap.size g data ((X7 dn).length+(t.length+2)+(Q2 ts).length) lv' _ _∧Below w.heap.size w' _ from ⟨h1,lv',h2,h3⟩);rw [Hm,hW,show (⟨#[]⟩:fY)=ofL [] from rfl,←Q2j (Y8 dn).1 ⟨(Y8 dn).2++(60::t++[62]),key,ts⟩] at HU;have hK:yK (Y8 (dn++[.blk t key ts])=((Y8 dn).1++[⟨(Y8 dn).2++(60::t++[62]),key,ts⟩],G9 t)):=(by show _=_;rw [Q6b];rfl);have hR:yK ((Z4 (Y8 (dn++[.blk t key ts])).1).length=(X7 dn).length+(t.length+2)+(Q2 ts).length):=by
      show _=_;rw [hK.o,Q2l,hH];simp;omega
     have Hb:(G9 t).length=(Z0 t).length+3:=(by simp [G9]);have hv:yK ((E6 dn:Int)+1=((E6 (dn++[.blk t key ts]):Nat):Int)):=(by show _=_;rw [Q4a];rfl);have ic:(⟨#[60,47]⟩:fY)++ofL (Z0 t)++(⟨#[62]⟩:fY)=ofL (G9 t):=by
      apply cB;apply bX.1;simp [ofL,G9]
     have HV:(ofL (Z0 t)).size=(Z0 t).length:=Q6 _;have HT:(Z0 t).length≤64:=(by have:=X2v t;have:=(J0 t hc).1;omega);have hq:(X7 dn).length+(t.length+2)+(Q2 ts).length+(G9 t).length≤data.size:=yY;have hi:yK (((((X7 dn).length+(t.length+2)+(Q2 ts).length:Nat):Int)+((Z0 t).length:Int))+3=((X7 (dn++[.blk t key ts])).length:Nat)):=(by show _=_;rw [hO,aA,Hw,Hb];omega);clear hf hO Hd hN ha hD Hc hc ht hs Hw Hv Hm hC Hr hG hH hp hm hB Ho hn hA Hp Hq Hg hP Hs;rw [Hb] at hq;clear Hb;generalize ofL (Y5 (.blk t key ts)++X7 td)=u1 at *;generalize ofL (Q2 ts++(G9 t++X7 td))=u2 at *;generalize ofL (Q2 ts)=u3 at *;generalize ofL (Z0 t)=nm at *;generalize ofL (G9 t)=pat at *;generalize ofL t=tb at *;generalize (Z0 t).length=nl at *;generalize t.length+2=n at *;generalize (X7 dn).length=p at *;generalize (Q2 ts).length=l at *;obtain ⟨p2,He⟩:∃ p2,yK (p2=p+n):=⟨_,rfl⟩;obtain ⟨p3,Hf⟩:∃ p3,yK (p3=p2+l):=⟨_,rfl⟩;rw [←He.o] at CF HU hR HL hW hi hq;rw [←Hf.o] at CF HU hR hW hi hq;have ii:p+n≤data.size:=(by have:=He.o;have:=Hf.o;omega);have HJ:yK ((p:Int)+(n:Int)=(p2:Int)):=(by show _=_;have:=He.o;omega);have HW:p2≤p3:=(by have:=Hf.o;omega);have HY:(0:Int)≤(p3:Int):=yY;have HZ:p3≤data.size:=yY;have HS:nm.size≤64:=yY;go_upto_region 11 with (first
      | (go_at_call 136;refine (CB.o _).mono ?_;rintro e w' ⟨rfl,rfl⟩)
      | (go_at_call 135;refine (CT.o _).mono ?_;rintro e w1 ⟨rfl,hj⟩;have hy:=zW (HP.o.below hj);have hl:=zW (HB.o.trans (hj.mono HB.o.size));clear hj))
     have HX:=zW (show (w1.alloc (.cells #[.int .i64 2,.string tb,.int .i64 0] 31)).heap[w1.heap.size]? =some (.cells #[.int .i64 2,.string tb,.int .i64 0] 31) from aY);have hU:=zW (hy.o.alloc (.cells #[.int .i64 2,.string tb,.int .i64 0] 31));have hI:=zW (hl.o.alloc hl.o.size (.cells #[.int .i64 2,.string tb,.int .i64 0] 31));clear hy hl;generalize w1.alloc (.cells #[.int .i64 2,.string tb,.int .i64 0] 31)=w2 at *;obtain ⟨x0,x1,x2,_⟩:=bx3 HX.o;go_upto_region 15 with (first
      | (go_at_call 36;refine (CN.o _).mono ?_;rintro e w' ⟨rfl,rfl⟩)
      | (go_at_call 51;refine (CBL.o _).mono ?_;rintro e w' ⟨rfl,rfl⟩))
     rw [HJ.o];go_wp2_with (first
      | (go_at_call 51;refine (CBL.o _).mono ?_;rintro e w' ⟨rfl,rfl⟩)
      | (go_at_call 174;refine (CF.o _).mono ?_;rintro e w' ⟨rfl,rfl⟩)
      | (go_at_call 20;refine (HA.o _).mono ?_;rintro e w3 ⟨v3,vc3,rfl,Ht,hF,hX⟩;obtain ⟨A3,c3,rfl⟩:=Q0 Ht;obtain ⟨A4,c4,rfl⟩:=Q0 hF;have HG:=zW (hU.o.below hX);have Hh:=zW (hI.o.trans (hX.mono hI.o.size));clear Ht hF hX)
      | (go_at_call 134;refine (Hj.o _).mono ?_;rintro e w4 ⟨rfl,hY⟩;have HH:=zW (HG.o.below hY);have Hy:=zW (Hh.o.trans (hY.mono Hh.o.size));clear hY)
      | (go_at_call 192;refine (HU.o _ _ (by exact HH.o)).mono ?_;rintro e w5 ⟨⟨v5,rfl⟩,lv5,Hu,Hn⟩;have HI:=zW Hu;have Hz:=zW (Hy.o.trans Hn);clear Hu Hn))
     rw [hi.o,hv.o];go_roundg td.length
     case measure=>omega
     case rel=>
      refine ⟨dn++[MK.blk t key ts],td,hJ.o,rfl,rfl,⟨lv5,?_⟩,Hz.o,yQ⟩;rw [hR.o,hK.o];exact HI.o
    ·have hu:∀ t k ts,x≠.blk t k ts:=fun t k ts e=>hb ⟨t,k,ts,e⟩;have hv:=zW (Y1c dn x hu);have hK:yK (Y8 (dn++[x])=((Y8 dn).1,(Y8 dn).2++Y5 x)):=(by show _=_;rw [Q6b,X2s _ _ hu]);have hS:yK (∀ W,BlD w.heap.size g data (Z4 (Y8 dn).1).length lv (P1 (Y8 dn).1) W→BlD w.heap.size g data (Z4 (Y8 (dn++[x])).1).length lv (P1 (Y8 (dn++[x])).1) W):=fun W h=>by rw [hK.o];exact h
     clear hb hO Hd;cases x with
     | blk t k ts=>exact absurd rfl (hu t k ts)
     | byte c=>
       have hc:=hn c [] rfl;have n60:((data[(X7 dn).length].toNat:Int) != 60)=true:=Q7z _ 60 (fun e=>hx (hc.symm.trans e));have hV:yK (((X7 dn).length:Int)+1=((X7 (dn++[MK.byte c])).length:Nat)):=hf.o;clear hc hn hx ha hp hN hL hM hu;generalize (X7 dn).length=p at *;go_wp2_with fail
       rw [hV.o];go_roundg td.length
       case measure=>omega
       case rel=>exact ⟨dn++[MK.byte c],td,hJ.o,rfl,by rw [hv.o],⟨lv,hS.o _ HP.o⟩,HB.o,yQ⟩
     | note=>
       have hc:=hn 60 _ rfl;have n60:((data[(X7 dn).length].toNat:Int) != 60)=false:=(by rw [hc];rfl);have hV:yK (((X7 dn).length:Int)+12=((X7 (dn++[MK.note])).length:Nat)):=hf.o;have CB:=zW (fun W=>G4 (ofL (Y5 .note++X7 td)) (⟨#[60,33,45,45]⟩:fY) true (by simp [ofL,Y5,Y8m,Lib.hasPrefix,List.isPrefixOf]) W yX);have hB:data.data.toList.drop ((X7 dn).length+4)=[32,60,112,62,32,45,45,62]++X7 td:=by
        rw [ha,←fC,dR];rfl
       have CF:=zW (fun W=>Y7h data [45,45,62] ((X7 dn).length+4) 5 W (by rw [hB];simp [Lib.index,List.isPrefixOf]) yX yY yX);rw [show ofL [45,45,62]=(⟨#[45,45,62]⟩:fY) from rfl] at CF;have HQ:(X7 dn).length+12≤data.size:=Hg;clear hc hn hx ha hp hN hM hu hB;generalize ofL (Y5 .note++X7 td)=u at *;generalize (X7 dn).length=p at *;have ia:((p+4:Nat):Int)=(p:Int)+4:=rfl;have ib:((p+4+5:Nat):Int)=(p:Int)+9:=rfl;rw [ia,ib] at CF;go_wp2_with (first
        | (go_at_call 136;refine (CB.o _).mono ?_;rintro e w' ⟨rfl,rfl⟩)
        | (go_at_call 174;refine (CF.o _).mono ?_;rintro e w' ⟨rfl,rfl⟩))
       rw [show (p:Int)+9+3=(p:Int)+12 by omega,hV.o];go_roundg td.length
       case measure=>omega
       case rel=>exact ⟨dn++[MK.note],td,hJ.o,rfl,by rw [hv.o],⟨lv,hS.o _ HP.o⟩,HB.o,yQ⟩
     | tag t=>
       have hc:=hn 60 _ rfl;have n60:((data[(X7 dn).length].toNat:Int) != 60)=false:=(by rw [hc];rfl);have hE:(Y5 (.tag t)).length=t.length+2:=(by simp [Y5]);rw [hE] at hf Hg;have hP:(ofL (Y5 (.tag t)++X7 td)).size≤1000000:=(by rw [Q6,aA];omega);have HN:∃ d q,t=d::q∧d≠33:=by
        rcases hx with ⟨h1,_⟩ | ⟨u,rfl,h1,_⟩
        ·obtain ⟨d,q,e,hh⟩:=G3 t h1;exact ⟨d,q,e,T8 d hh 33 yW⟩
        ·obtain ⟨d,q,e,hh⟩:=G3 u h1;exact ⟨d,q++[47],by rw [e];rfl,T8 d hh 33 yW⟩
       obtain ⟨d,q,hA,hz⟩:=HN;have CB:=zW (fun W=>G4 (ofL (Y5 (.tag t)++X7 td)) (⟨#[60,33,45,45]⟩:fY) false (by
        have:=X1w d (q++[62]++X7 td) hz;rw [hA];simpa [ofL,Y5] using this) W yX)
       obtain ⟨k,u,ih,Hx,Hl⟩:=V0q t hx (ofL (Y5 (.tag t)++X7 td)) (X7 td) (by simp [ofL,Y5]) hP;have CT:=zW Hl;have CN:=zW (fun W=>B8 u W yY);rw [show (⟨(M8 u.data.toList).toArray⟩:fY)=ofL (Z0 u.data.toList) from rfl] at CN;have CBL:=zW (fun W=>Q4t (ofL (Z0 u.data.toList)) W (by simpa [ofL] using Hx));have HR:(((t.length+2:Nat):Int)==0)=false:=(by rw [aI];omega);clear hc hn hx ha hp hN hM hu hA hz Hq Hl Hx hE;generalize ofL (Y5 (.tag t)++X7 td)=uu at *;generalize ofL (Z0 u.data.toList)=nm at *;generalize (X7 dn).length=p at *;generalize t.length+2=n at *;go_upto_region 11 with (first
        | (go_at_call 136;refine (CB.o _).mono ?_;rintro e w' ⟨rfl,rfl⟩)
        | (go_at_call 135;refine (CT.o _).mono ?_;rintro e w1 ⟨rfl,hj⟩;have hy:=zW (HP.o.below hj);have hl:=zW (HB.o.trans (hj.mono HB.o.size));clear hj))
       have HX:=zW (show (w1.alloc (.cells #[.int .i64 k,.string u,.int .i64 0] 31)).heap[w1.heap.size]? =some (.cells #[.int .i64 k,.string u,.int .i64 0] 31) from aY);have hU:=zW (hy.o.alloc (.cells #[.int .i64 k,.string u,.int .i64 0] 31));have hI:=zW (hl.o.alloc hl.o.size (.cells #[.int .i64 k,.string u,.int .i64 0] 31));clear hy hl;generalize w1.alloc (.cells #[.int .i64 k,.string u,.int .i64 0] 31)=w2 at *;obtain ⟨x0,x1,x2,_⟩:=bx3 HX.o;go_wp2_with (first
        | (go_at_call 36;refine (CN.o _).mono ?_;rintro e w' ⟨rfl,rfl⟩)
        | (go_at_call 51;refine (CBL.o _).mono ?_;rintro e w' ⟨rfl,rfl⟩))
       rw [hf.o];go_roundg td.length
       case measure=>omega
       case rel=>exact ⟨dn++[MK.tag t],td,hJ.o,rfl,by rw [hv.o],⟨lv,hS.o _ hU.o⟩,hI.o,yQ⟩
theorem Y0b:∀ (ls:List RL) (st:List Un×List UInt8),(ls.foldl O6 st).1.map (fun (u:Un)=>u.key)=st.1.map (fun (u:Un)=>u.key)++Z1 ls
 | [],st=>by simp [Z1]
 | x::ls,st=>by
   rw [bQ,Y0b ls];cases x with
   | skip l=>rfl
   | unit k ts=>
     show (st.1++[_]).map (fun (u:Un)=>u.key)++_=_++(k::Z1 ls);simp
theorem Y8y:∀ (us:List Un),∀ p∈P1 us,p.un=true→∃ u∈us,p.key=ofL u.key
 | [],p,h,_=>by simp [P1] at h
 | u::us,p,h,hu=>by
   rw [show P1 (u::us)=[⟨false,ofL [],ofL u.sk⟩,⟨true,ofL u.key,ofL (Q2 u.ts)⟩]++P1 us from rfl] at h;rcases aS.1 h with h | h
   ·simp only [aU,cL,eL] at h;rcases h with rfl | rfl
    ·cases hu
    ·exact ⟨u,by simp,rfl⟩
   ·obtain ⟨v,hv,e⟩:=Y8y us p h hu;exact ⟨v,by simp [hv],e⟩
theorem V8j (dn:List RL) (k:List UInt8) (h:((Z1 dn).any fun x=>x==k)=false):∀ p∈P1 (Y4 dn).1,p.un=true→(p.key.toList==(ofL k).toList)=false:=by
 intro p hp hu;obtain ⟨u,ha,e⟩:=Y8y _ p hp hu;have hk:u.key∈Z1 dn:=by
  have:=Y0b dn ([],[]);rw [show (([],[]):List Un×List UInt8).1.map (fun (u:Un)=>u.key)=[] from rfl,bJ] at this;rw [←this];exact cF.2 ⟨u,ha,rfl⟩
 rw [List.any_eq_false] at h;have:=h _ hk;rw [e,I7,I7];simpa using this
def Q2q (l:List UInt8):Nat:=(l.takeWhile Q3g).length
theorem U0v (l r:List UInt8) (j:Nat) (h:j < Q2q l):∃ h2:j < (l++r).length,(l++r)[j]=32∨((l++r)[j]≠32∧(l++r)[j]=9):=by
 have hl:Q2q l≤l.length:=(by unfold Q2q;exact (eY _).length_le);refine ⟨by simp;omega,?_⟩;rw [cI yY];have he:l[j]'yY=(l.takeWhile Q3g)[j]'h:=by
  obtain ⟨q,hq⟩:=eY (p:=Q3g) (l:=l);have:(l.takeWhile Q3g++q)[j]'(by rw [hq];omega)=(l.takeWhile Q3g)[j]'h:=cI h;simp only [hq] at this;exact this
 have hb:=List.all_eq_true.1 (List.all_takeWhile (p:=Q3g) (l:=l)) _ (aL h);rw [←he] at hb;unfold Q3g at hb;simp only [fL,cM] at hb;by_cases h32:l[j]'yY=32
 ·exact .inl h32
 ·exact .inr ⟨h32,by rcases hb with hb | hb;exact absurd hb h32;exact hb⟩
theorem V7b (l r:List UInt8) (h:Q6g l=true):∃ h2:Q2q l < (l++10::r).length,(l++10::r)[Q2q l]=10∨((l++10::r)[Q2q l]≠10∧(l++10::r)[Q2q l]=35):=by
 have e:l=l.takeWhile Q3g++l.dropWhile Q3g:=(List.takeWhile_append_dropWhile).symm;have hl:Q2q l≤l.length:=(by unfold Q2q;exact (eY _).length_le);have ha:Q2q l < (l++10::r).length:=yV;refine ⟨ha,?_⟩;have hd:(l++10::r).drop (Q2q l)=l.dropWhile Q3g++10::r:=by
  conv=>lhs;rw [e]
  rw [aZ];unfold Q2q;conv=>lhs;arg 1;rw [←e]
  rw [dR]
 have hg:(l++10::r)[Q2q l]::(l++10::r).drop (Q2q l+1)=l.dropWhile Q3g++10::r:=(by rw [←hd];exact (aQ ha).symm);cases hw:l.dropWhile Q3g with
 | nil=>
   rw [hw] at hg;injection hg with hg _;exact .inl hg
 | cons c q=>
   have:=Y2b l c q hw;rw [h] at this;have hc:c=35:=(by simpa using this.symm);rw [hw,hc] at hg;injection hg with hg _;exact .inr ⟨by rw [hg];decide,hg⟩
theorem U0w (l:List UInt8):Q2q l≤l.length:=by unfold Q2q;exact (eY _).length_le
theorem Y9u (data:fY) (ls:List RL) (w:World) (hd:data.data.toList=X6 ls) (hok:∀ x∈ls,Y0i x) (hk:(Z1 ls).Nodup) (hkl:(Z1 ls).length≤1000) (hsz:data.size≤65536):
 Calls prog 169 #[.string data] w (D6 (P9 (Y4 ls).1 (Y4 ls).2) w):=by
 obtain ⟨R,Ho⟩:∃ R:Ending→World→Prop,yK (R=D6 (P9 (Y4 ls).1 (Y4 ls).2) w):=⟨_,rfl⟩;rw [←Ho.o];have HD:=zW hd;have HJ:=zW hok;have HK:=zW hk;have Hl:=zW hkl;have hZ:yK (BlD w.heap.size w.heap.size data 0 (.slice none 0 0) [] (w.alloc (.cells #[.string data,.slice none 0 0,.int .i64 0] 269))):=⟨aY,OwnE.nil,yQ⟩;have hV:=zW ((aB w.heap.size w).alloc yQ (.cells #[.string data,.slice none 0 0,.int .i64 0] 269));obtain ⟨g,hg⟩:∃ g,yK (g=w.heap.size):=⟨_,rfl⟩;clear hd hok hk hkl;go_enter func169,ntmps169
 go_wp2_with fail
 generalize w.alloc (.cells #[.string data,.slice none 0 0,.int .i64 0] 269)=w0 at hZ hV ⊢;have hC:yK (BlD w.heap.size g data 0 (.slice none 0 0) [] w0):=(by show BlD _ _ _ _ _ _ _;rw [hg.o];exact hZ.o);rw [←hg.o];go_loopg [6] ls.length (fun gk av wr=>∃ dn td,yK (ls=dn++td)∧av=.int .i64 ((X6 dn).length:Nat)∧(∃ lv,yK (BlD w.heap.size g data (Z4 (Y4 dn).1).length lv (P1 (Y4 dn).1) wr))∧yK (Below w.heap.size w wr)∧td.length≤gk)
 case atStart=>exact ⟨[],ls,rfl,rfl,⟨_,hC.o⟩,hV.o,yQ⟩
 case round=>
  obtain ⟨dn,td,HE,rfl,⟨lv,HP⟩,HB,hgk⟩:=hrel;clear hZ hV hC;cases td with
  | nil=>
    have he:ls=dn:=(by have:=HE.o;rwa [aX] at this);subst he;have hu:(X6 ls).length=data.size:=(by rw [aC,HD.o]);have hn:=C6 (Y4 ls).1;have hH:(Z4 (Y4 ls).1).length≤data.size:=by
     rw [←hu,Q0p,aA];omega
    have HT:=Hl.o;rw [Q0r] at hn;have Hu:data.extract (Z4 (Y4 ls).1).length data.size=ofL (Y4 ls).2:=B7 _ _ _ (by rw [HD.o,Q0p]);have HC:=zW (X7l HP.o hH yY yY);rw [Hu,show (⟨#[]⟩:fY)=ofL [] from rfl,←Q5t] at HC;clear Hu hH hn HT;rw [hu];clear hu;go_wp2_with (go_at_call 193;refine (HC.o).mono ?_;rintro e w1 ⟨v,rfl,ho,Hf⟩;have HO:=zW ho;have HG:=zW (HB.o.trans Hf);obtain ⟨A,c,rfl⟩:=Q0 ho;clear ho Hf)
    go_ret3
    rw [Ho.o];exact ⟨_,rfl,HO.o,HG.o⟩
  | cons x td=>
    have hx:=HJ.o x (by rw [HE.o];simp);have hr:data.data.toList=X6 dn++(E3 x++X6 td):=V5d dn td x data (by rw [HD.o,HE.o]);have hp:(X6 dn).length+(E3 x).length+(X6 td).length=data.size:=(by rw [aC,hr];simp;omega);have Hh:dn++[x]++td=dn++x::td:=yW;have Hi:X6 (dn++[x])=X6 dn++E3 x:=(by rw [X2h];simp [X6]);have Hz:0 < (E3 x).length:=by cases x<;>(simp [E3];try omega)
    have iv:((X6 dn).length:Int) < (data.size:Int):=yY;have HX:td.length+1≤gk:=hgk;have hw:=zW (M5 data (X6 dn) (E3 x++X6 td) hr);have hi:yK (((X6 dn).length:Int)+((E3 x).length:Int)=((X6 (dn++[x])).length:Nat)):=(by show _=_;rw [Hi,aA];simp);have hS:yK (ls=dn++[x]++td):=(by show _=_;rw [Hh];exact HE.o);have Hy:(X6 dn).length+(E3 x).length≤data.size:=yY;cases x with
    | skip l=>
      obtain ⟨hl,Hv⟩:=hx;have hh:E3 (.skip l)++X6 td=l++10::X6 td:=(by simp [E3]);have hO:(E3 (.skip l)).length=l.length+1:=(by simp [E3]);rw [hh] at hw hr;rw [hO] at hi Hy;have HZ:=zW (fun j h=>U0v l (10::X6 td) j h);have HQ:=zW (V7b l (X6 td) Hv);have iw:=U0w l;have hR:=zW (fun W=>Z2v data (X6 dn++l.take (Q2q l)) (l.drop (Q2q l)) (X6 td) W (by rw [hr,aZ,←aZ (l.take _),bR]) (fun c hc=>hl c (dW hc)) yY);have hn:(X6 dn++l.take (Q2q l)).length=(X6 dn).length+Q2q l:=(by rw [aA,bG];omega);rw [hn,bM,show (X6 dn).length+Q2q l+(l.length - Q2q l)=(X6 dn).length+l.length by omega] at hR;have hD:yK (Y4 (dn++[.skip l])=((Y4 dn).1,(Y4 dn).2++(l++[10]))):=(by show _=_;rw [Q6c];rfl);have Hm:yK (∀ W,BlD w.heap.size g data (Z4 (Y4 dn).1).length lv (P1 (Y4 dn).1) W→BlD w.heap.size g data (Z4 (Y4 (dn++[RL.skip l])).1).length lv (P1 (Y4 (dn++[RL.skip l])).1) W):=fun W h=>by rw [hD.o];exact h
      have hI:(l++10::X6 td).length=l.length+1+(X6 td).length:=yV;have HI:=zW hI;clear hr hp Hz hh hO hl Hv Hi Hh hn hI;generalize l++10::X6 td=L at *;generalize Q2q l=z at *;generalize hq:(X6 dn).length=q at *;obtain ⟨wo,hz⟩:∃ wo,yK (wo=wr):=⟨wr,rfl⟩;clear hq;go_wp2_with fail
      go_loopg [7] (z+1) (fun gz kv wz=>∃ j:Nat,kv=.int .i64 (q+j:Nat)∧j≤z∧yK (wz=wo)∧z+1 - j≤gz)
      case atStart=>exact ⟨0,rfl,aO _,hz.o.symm,yQ⟩
      case round=>
       obtain ⟨j,rfl,hj,HW,HY⟩:=hrel;obtain ⟨p,hb⟩:∃ p,p=q+j:=⟨_,rfl⟩;rw [←hb];have hN:p < data.size:=yY;have ii:(p:Int) < (data.size:Int):=yY;by_cases hjz:j < z
       ·obtain ⟨Hg,hc⟩:=HZ.o j hjz;have ha:=hw.o j p Hg hb hN;have hT:yK ((p:Int)+1=((q+(j+1):Nat):Int)):=(by show _=_;omega);rcases hc with hc | ⟨hc1,hc⟩
        ·have n32:((data[p].toNat:Int)==32)=true:=(by rw [ha,hc];rfl);clear ha hc hb;go_wp2_with fail
         rw [hT.o];go_roundg (z - j)
         case measure=>omega
         case rel=>exact ⟨j+1,rfl,hjz,HW.o,yY⟩
        ·have n32:((data[p].toNat:Int)==32)=false:=(by rw [ha];exact Y2 _ 32 hc1);have n9:((data[p].toNat:Int)==9)=true:=(by rw [ha,hc];rfl);clear ha hc hc1 hb;go_wp2_with fail
         rw [hT.o];go_roundg (z - j)
         case measure=>omega
         case rel=>exact ⟨j+1,rfl,hjz,HW.o,yY⟩
       ·obtain rfl:j=z:=yY;obtain ⟨ip,HF⟩:=HQ.o;have HN:=zW HF;have ha:=hw.o j p ip hb hN;clear HF;have hA:wr=wo:=HW.o;have Hp:yK ((q:Int)+(l.length:Int)+1=((X6 (dn++[RL.skip l])).length:Nat)):=(by show _=_;have:=hi.o;omega);have io:q+l.length+1≤data.size:=yY;have HV:¬ (data.size:Int)≤(p:Int):=yY;rw [←hb] at hR;have hs:yK (BlD w.heap.size g data (Z4 (Y4 dn).1).length lv (P1 (Y4 dn).1) wr):=(by show BlD _ _ _ _ _ _ _;rw [hA,hz.o];exact HP.o);have hy:yK (Below w.heap.size w wr):=(by show Below _ _ _;rw [hA,hz.o];exact HB.o);clear hA;rcases HN.o with hc | ⟨hc1,hc⟩
        ·have n32:((data[p].toNat:Int)==32)=false:=(by rw [ha,hc];rfl);have n9:((data[p].toNat:Int)==9)=false:=(by rw [ha,hc];rfl);have n10:((data[p].toNat:Int)==10)=true:=(by rw [ha,hc];rfl);clear ha hc hb;go_wp2_with (go_at_call 194;refine (hR.o _).mono ?_;rintro e w' ⟨rfl,rfl⟩)
         rw [Hp.o];go_roundg td.length
         case measure=>omega
         case rel=>exact ⟨dn++[RL.skip l],td,hS.o,rfl,⟨lv,Hm.o _ hs.o⟩,hy.o,yQ⟩
        ·have n32:((data[p].toNat:Int)==32)=false:=(by rw [ha,hc];rfl);have n9:((data[p].toNat:Int)==9)=false:=(by rw [ha,hc];rfl);have n10:((data[p].toNat:Int)==10)=false:=(by rw [ha];exact Y2 _ 10 hc1);have n35:((data[p].toNat:Int)==35)=true:=(by rw [ha,hc];rfl);clear ha hc hc1 hb;go_wp2_with (go_at_call 194;refine (hR.o _).mono ?_;rintro e w' ⟨rfl,rfl⟩)
         rw [Hp.o];go_roundg td.length
         case measure=>omega
         case rel=>exact ⟨dn++[RL.skip l],td,hS.o,rfl,⟨lv,Hm.o _ hs.o⟩,hy.o,yQ⟩
    | unit key ts=>
      obtain ⟨ib,ic,Hw,hh⟩:=hx;have HA:E3 (.unit key ts)++X6 td=key++(61::(Q2 ts++10::X6 td)):=(by simp [E3]);have hO:(E3 (.unit key ts)).length=key.length+1+(Q2 ts).length+1:=(by simp [E3];omega);rw [HA] at hw hr;rw [hO] at hi Hy;have im:(Q2 ts).length≤65536:=yY;have hu:data.data.toList=(X6 dn++(key++[61]))++(Q2 ts++10::X6 td):=(by rw [hr];simp);have hn:(X6 dn++(key++[(61:UInt8)])).length=(X6 dn).length+key.length+1:=yV;have Hc:=X7m (X6 td) ts hh.els;have hB:=zW (fun W=>Z2w data (X6 dn++(key++[61])) (Q2 ts++10::X6 td) W hu (by rw [Hc];simp) yY);rw [hn,Hc] at hB;have hP:=Q0p dn;have HS:data.extract (X6 dn).length ((X6 dn).length+key.length)=ofL key:=T0 data (X6 dn) key (61::(Q2 ts++10::X6 td)) _ (by rw [hr];simp) rfl;have Hd:data.extract ((X6 dn).length+key.length+1) ((X6 dn).length+key.length+1+(Q2 ts).length)=ofL (Q2 ts):=by
       have:=T0 data (X6 dn++(key++[61])) (Q2 ts) (10::X6 td) ((X6 dn).length+key.length+1+(Q2 ts).length) (by rw [hu];simp) (by rw [hn]);rwa [hn] at this
      have Ht:data.extract (Z4 (Y4 dn).1).length ((X6 dn).length+key.length+1)=ofL ((Y4 dn).2++(key++[61])):=
       T0 data (Z4 (Y4 dn).1) ((Y4 dn).2++(key++[61])) (Q2 ts++10::X6 td) _ (by rw [hu,hP];simp) (by rw [hP];simp;omega)
      have hH:(Z4 (Y4 dn).1).length≤(X6 dn).length+key.length+1:=(by rw [hP,aA];omega);have Hj:=zW (fun W=>X2k 2 (.inr (.inl rfl)) (ofL (Q2 ts)) ts W hh (by simp [ofL]) (by rw [Q6];exact im));have Hx:=Y7u dn key ts td (by rw [←HE.o];exact HK.o);have ie:(Z1 dn).length≤1000:=by
       have h1:=Hl.o;rw [HE.o,I3,aA] at h1;omega
      have hM:=C6 (Y4 dn).1;rw [Q0r] at hM;have HH:=zW (fun (A:Option Addr) (c:Nat) (W:World) (h:RdE ptC 3 W (.slice A (P1 (Y4 dn).1).length c) (P1 (Y4 dn).1))=>V9l (P1 (Y4 dn).1) A c (ofL key) W h yY (V8j dn key Hx));have HU:=zW (fun (lv:Value) (w':World) (h:BlD w.heap.size g data (Z4 (Y4 dn).1).length lv (P1 (Y4 dn).1) w')=>(X4t ((X6 dn).length+key.length+1) ((X6 dn).length+key.length+1+(Q2 ts).length) (ofL key) h hH yY yY yY yY).mono fun _ _ ⟨h1,lv',h2,h3,_⟩=>show (∃ v,_=Ending.returned v)∧∃ lv',BlD w.heap.size g data ((X6 dn).length+key.length+1+(Q2 ts).length) lv' _ _∧Below w.heap.size w' _ from ⟨h1,lv',h2,h3⟩);rw [Ht,Hd,show (⟨#[]⟩:fY)=ofL [] from rfl,←Q2j (Y4 dn).1 ⟨(Y4 dn).2++(key++[61]),key,ts⟩] at HU;have hD:yK (Y4 (dn++[.unit key ts])=((Y4 dn).1++[⟨(Y4 dn).2++(key++[61]),key,ts⟩],[10])):=(by show _=_;rw [Q6c];rfl);have hQ:yK ((Z4 (Y4 (dn++[.unit key ts])).1).length=(X6 dn).length+key.length+1+(Q2 ts).length):=by
       show _=_;rw [hD.o,Q2l,hP];simp;omega
      have Hk:=zW (fun (j:Nat) (h:j < key.length)=>show ∃ h2:j < (key++(61::(Q2 ts++10::X6 td))).length,Q1h ((key++(61::(Q2 ts++10::X6 td)))[j])=true from ⟨by simp;omega,by rw [cI h];exact Hw _ (aL h)⟩);have hY:yK (∃ h2:key.length < (key++(61::(Q2 ts++10::X6 td))).length,(key++(61::(Q2 ts++10::X6 td)))[key.length]=61):=⟨by simp,by rw [bK yQ];simp⟩;have HR:=Hk.o 0 ib;have hf:yK ((((X6 dn).length+key.length+1+(Q2 ts).length:Nat):Int)+1=((X6 (dn++[.unit key ts])).length:Nat)):=(by show _=_;have:=hi.o;omega);clear hi hr hp Hz HA hO Hw hh Hi Hh hu hn Hc hP Ht hH Hx ie hM;have He:=Hd;clear Hd;generalize key++(61::(Q2 ts++10::X6 td))=L at *;generalize ofL (Q2 ts)=u3 at *;generalize hks:ofL key=kb at *;generalize key.length=n at *;generalize (X6 dn).length=q at *;generalize (Q2 ts).length=le at *;clear hks;obtain ⟨qn,hv⟩:∃ qn,yK (qn=q+n):=⟨_,rfl⟩;rw [←hv.o] at hB HU hQ hf HS;obtain ⟨q2,hU⟩:∃ q2,yK (q2=qn+1+le):=⟨_,rfl⟩;rw [←hU.o] at hB HU hQ hf;have Hf:q+1≤qn:=(by have:=hv.o;omega);have ir:qn+1≤q2:=(by have:=hU.o;omega);have ht:q2+1≤data.size:=(by have:=hv.o;have:=hU.o;omega);have it:qn≤q+64:=(by have:=hv.o;omega);have HL:yK (((qn+1:Nat):Int)=(qn:Int)+1):=rfl;rw [HL.o] at hB HU;have iq:data.extract (qn+1) q2=u3:=(by rw [hU.o,hv.o];exact He);obtain ⟨Hq,Hr⟩:=HR;have ik:q < data.size:=yY;have hF:=hw.o 0 q Hq rfl ik;have hJ:=Z5n _ Hr;rw [←hF] at hJ;obtain ⟨z10,z32,z9,z35,_⟩:=hJ;have n32:((data[q].toNat:Int)==32)=false:=Y2 _ 32 z32;have n9:((data[q].toNat:Int)==9)=false:=Y2 _ 9 z9;have n10:((data[q].toNat:Int)==10)=false:=Y2 _ 10 z10;have n35:((data[q].toNat:Int)==35)=false:=Y2 _ 35 z35;have il:¬ (data.size:Int)≤(q:Int):=yY;clear hF Hr z10 z32 z9 z35 Hq;obtain ⟨wo,hz⟩:∃ wo,yK (wo=wr):=⟨wr,rfl⟩;go_wp2_with fail
      go_loopg [7] 1 (fun gz kv wz=>kv=.int .i64 (q:Nat)∧yK (wz=wo)∧1≤gz)
      case atStart=>exact ⟨rfl,hz.o.symm,yQ⟩
      case round=>
       obtain ⟨rfl,HM,ia⟩:=hrel;go_wp2_with fail
       try rw [show decide (data.size≤q)=false from cD yY]
       go_loopg [7] (n+1) (fun gz kv wz=>∃ j:Nat,kv=.int .i64 (q+j:Nat)∧j≤n∧yK (wz=wo)∧n+1 - j≤gz)
       case atStart=>exact ⟨0,rfl,aO _,HM.o,yQ⟩
       case round=>
        obtain ⟨j,rfl,hj,HW,HY⟩:=hrel;obtain ⟨p,hb⟩:∃ p,p=q+j:=⟨_,rfl⟩;rw [←hb];have hN:p < data.size:=(by have:=hv.o;omega);have ii:(p:Int) < (data.size:Int):=yY;by_cases hjz:j < n
        ·obtain ⟨Hg,hc⟩:=Hk.o j hjz;have ha:=hw.o j p Hg hb hN;have CK:=zW (fun W=>Y2r data[p] W);rw [ha,hc,←ha] at CK;have hT:yK ((p:Int)+1=((q+(j+1):Nat):Int)):=(by show _=_;omega);have ih:(p:Int) < (q:Int)+64:=(by have:=hv.o;omega);clear ha hc hb;go_wp2_with (go_at_call 195;refine (CK.o _).mono ?_;rintro e w' ⟨rfl,rfl⟩)
         rw [hT.o];go_roundg (n - j)
         case measure=>omega
         case rel=>exact ⟨j+1,rfl,hjz,HW.o,yY⟩
        ·obtain rfl:j=n:=yY;obtain ⟨hE,Hs⟩:=hY.o;have ha:=(hw.o j p hE hb hN).trans Hs;have ij:p=qn:=hb.trans hv.o.symm;subst ij;have n61:((data[p].toNat:Int) != 61)=false:=(by rw [ha];rfl);have CK:=zW (fun W=>Y2r data[p] W);rw [show Q1h data[p]=false by rw [ha];decide] at CK;have iu:((p:Int)==(q:Int))=false:=(by rw [aI];omega);have HV:¬ (data.size:Int)≤(p:Int):=yY;have hA:wr=wo:=HW.o;have hs:yK (BlD w.heap.size g data (Z4 (Y4 dn).1).length lv (P1 (Y4 dn).1) wr):=(by show BlD _ _ _ _ _ _ _;rw [hA,hz.o];exact HP.o);have hy:yK (Below w.heap.size w wr):=(by show Below _ _ _;rw [hA,hz.o];exact HB.o);clear hA ha hE Hs hb;obtain ⟨A0,c0,ig⟩:=Q0 hs.o.own;subst ig;obtain ⟨x0,x1,x2,_⟩:=bx3 hs.o.box;have Hn:=zW (OwnE.rd D3 hs.o.own);by_cases h64:(p:Int) < (q:Int)+64
         ·go_wp2_with (first
           | (go_at_call 195;refine (CK.o _).mono ?_;rintro e w' ⟨rfl,rfl⟩)
           | (go_at_call 196;refine (HH.o _ _ _ (by exact Hn.o)).mono ?_;rintro e w' ⟨rfl,rfl⟩)
           | (go_at_call 194;refine (hB.o _).mono ?_;rintro e w' ⟨rfl,rfl⟩)
           | (go_at_call 20;refine (Hj.o _).mono ?_;rintro e w3 ⟨v3,vc3,rfl,hK,hm,ht⟩;obtain ⟨A3,c3,rfl⟩:=Q0 hK;obtain ⟨A4,c4,rfl⟩:=Q0 hm;have Ha:=zW (hs.o.below ht);have hW:=zW (hy.o.trans (ht.mono hy.o.size));clear hK hm ht)
           | (go_at_call 192;refine (HU.o _ _ (by exact Ha.o)).mono ?_;rintro e w5 ⟨⟨v5,rfl⟩,lv5,hL,hG⟩;have Hb:=zW hL;have hX:=zW (hW.o.trans hG);clear hL hG))
          rw [hf.o];go_roundg td.length
          case measure=>omega
          case rel=>
           refine ⟨dn++[RL.unit key ts],td,hS.o,rfl,⟨lv5,?_⟩,hX.o,yQ⟩;rw [hQ.o,hD.o];exact Hb.o
         ·go_wp2_with (first
           | (go_at_call 195;refine (CK.o _).mono ?_;rintro e w' ⟨rfl,rfl⟩)
           | (go_at_call 196;refine (HH.o _ _ _ (by exact Hn.o)).mono ?_;rintro e w' ⟨rfl,rfl⟩)
           | (go_at_call 194;refine (hB.o _).mono ?_;rintro e w' ⟨rfl,rfl⟩)
           | (go_at_call 20;refine (Hj.o _).mono ?_;rintro e w3 ⟨v3,vc3,rfl,hK,hm,ht⟩;obtain ⟨A3,c3,rfl⟩:=Q0 hK;obtain ⟨A4,c4,rfl⟩:=Q0 hm;have Ha:=zW (hs.o.below ht);have hW:=zW (hy.o.trans (ht.mono hy.o.size));clear hK hm ht)
           | (go_at_call 192;refine (HU.o _ _ (by exact Ha.o)).mono ?_;rintro e w5 ⟨⟨v5,rfl⟩,lv5,hL,hG⟩;have Hb:=zW hL;have hX:=zW (hW.o.trans hG);clear hL hG))
          rw [hf.o];go_roundg td.length
          case measure=>omega
          case rel=>
           refine ⟨dn++[RL.unit key ts],td,hS.o,rfl,⟨lv5,?_⟩,hX.o,yQ⟩;rw [hQ.o,hD.o];exact Hb.o
theorem Y1z (P S:List UInt8) (fs:List Fd) (hS:Q9o S) (i:Nat) (h:i < fs.length):∃ s,P++(K3 fs++S)=(P++pjC (fs.take i))++(fs[i].raw++s)∧FdEnd s∧((i+1 < fs.length∧∃ q,s=44::q)∨(i+1=fs.length∧s=S∧(pjC (fs.take i)).length+fs[i].raw.length=(K3 fs).length)):=by
 have hd:fs.drop i=fs[i]::fs.drop (i+1):=aQ h;have hj:K3 fs=pjC (fs.take i)++K3 (fs.drop i):=by
  have:=Q2d (fs.take i) (fs.drop i) (by rw [hd];exact List.cons_ne_nil _ _);rwa [bR] at this
 by_cases hl:i+1 < fs.length
 ·have hb:fs.drop (i+1)≠[]:=by
   intro e;have:=congrArg List.length e;rw [bM] at this;simp at this;omega
  refine ⟨44::(K3 (fs.drop (i+1))++S),?_,.inr ⟨44,_,rfl,.inl rfl⟩,.inl ⟨hl,_,rfl⟩⟩;rw [hj,hd,Q2w _ _ hb];simp
 ·have ha:fs.drop (i+1)=[]:=eD yY;rw [ha] at hd;refine ⟨S,?_,?_,.inr ⟨yY,rfl,?_⟩⟩
  ·rw [hj,hd];simp [K3]
  ·rcases hS with h | ⟨q,h⟩
   ·exact .inl h
   ·exact .inr ⟨10,q,h,.inr rfl⟩
  ·rw [hj,hd,aA];rfl
theorem Z6a (fs:List Fd) (i:Nat) (h:i < fs.length):(pjC (fs.take (i+1))).length=(pjC (fs.take i)).length+fs[i].raw.length+1:=by
 rw [aH h,X8w];simp;omega
theorem Y9v (data:fY) (a b:List Fl) (rs:List Rc) (w:World) (hd:data.data.toList=U9 a b rs)
 (ha:∀ f∈a,Q6l f∧Q4r f≠C7) (hb:∀ f∈b,Q6l f∧Q4r f≠C7) (hrs:∀ r∈rs,RcF a b r) (hE:∀ i r,rs[i]? =some r→r.key=Lib.decDigits (i+1)) (iu:rs.length≤8) (hal:a.length+1+b.length≤90) (hsz:data.size≤65536):
 Calls prog 170 #[.string data] w (D6 (P9 (Z6 a b rs).1 (Z6 a b rs).2) w):=by
 obtain ⟨R,iA⟩:∃ R:Ending→World→Prop,yK (R=D6 (P9 (Z6 a b rs).1 (Z6 a b rs).2) w):=⟨_,rfl⟩;rw [←iA.o];have HD:=zW hd;have HA:=zW ha;have ix:=zW hb;have iQ:=zW hrs;have HT:=zW hE;have HY:yK (BlD w.heap.size w.heap.size data 0 (.slice none 0 0) [] (w.alloc (.cells #[.string data,.slice none 0 0,.int .i64 0] 269))):=⟨aY,OwnE.nil,yQ⟩;have HL:=zW ((aB w.heap.size w).alloc yQ (.cells #[.string data,.slice none 0 0,.int .i64 0] 269));obtain ⟨g,hg⟩:∃ g,yK (g=w.heap.size):=⟨_,rfl⟩;clear hd ha hb hrs hE;go_enter func170,ntmps170
 go_wp2_with fail
 generalize w.alloc (.cells #[.string data,.slice none 0 0,.int .i64 0] 269)=w0 at HY HL ⊢;have Hl:yK (BlD w.heap.size g data 0 (.slice none 0 0) [] w0):=(by show BlD _ _ _ _ _ _ _;rw [hg.o];exact HY.o);rw [←hg.o];go_loopg [6,7,8,9] (rs.length+2) (fun gk av wv cv rv wr=>∃ (k at_ wd:Nat) (cl:Int),rv=.int .i64 (k:Nat)∧av=.int .i64 (at_:Nat)∧wv=.int .i64 (wd:Nat)∧cv=.int .i64 cl∧k≤rs.length+1∧yK ((k=0∧at_=0∧wd=0∧cl=-1)∨(∃ k',k=k'+1∧at_=(U9 a b (rs.take k')).length+1∧wd=a.length+1+b.length∧cl=(a.length:Int)))∧(∃ lv,yK (BlD w.heap.size g data (Z4 (Z6 a b (rs.take (k - 1))).1).length lv (P1 (Z6 a b (rs.take (k - 1))).1) wr))∧yK (Below w.heap.size w wr)∧rs.length+2 - k≤gk)
 case atStart=>exact ⟨0,0,0,-1,rfl,rfl,rfl,rfl,aO _,.inl ⟨rfl,rfl,rfl,rfl⟩,⟨_,Hl.o⟩,HL.o,yQ⟩
 case round=>
  obtain ⟨k,at_,wd,cl,rfl,rfl,rfl,rfl,hk,HJ,⟨lv,HP⟩,HB,hgk⟩:=hrel;clear HY HL Hl;rcases HJ.o with ⟨iG,hat0,hwd0,hcl0⟩ | ⟨k',rfl,rfl,rfl,rfl⟩
  ·subst iG hat0 hwd0 hcl0;have Hv:=Y7p a b;have hs:data.data.toList=[]++(K3 (Q6j a b)++P4 rs []):=(by rw [HD.o,X1n,bJ];simp [U9,P4]);have Hb:Q9o (P4 rs []):=Q5y rs [] (.inl rfl);have hC:(K3 (Q6j a b)).length+(P4 rs []).length=data.size:=(by rw [aC,hs];simp);have HW:=zW (Z5k a b (fun f h=>(HA.o f h).1) (fun f h=>(ix.o f h).1));have hI:=zW (Z5j a b);have iN:=zW (X7t a b (fun f h=>(HA.o f h).2) (fun f h=>(ix.o f h).2));have iB:=zW (X1n a b);have ig:=zW (fun i h=>Y1z [] (P4 rs []) (Q6j a b) Hb i h);have HN:=zW hs;have ia:=zW (fun i h=>Z6a (Q6j a b) i h);have Hr:=zW Hb;have HQ:=zW hC;have iv:a.length < (Q6j a b).length:=yY;clear hs Hb hC HJ;generalize Q6j a b=fs at *;generalize htk:a.length=tcol at *;go_wp2_with fail
   go_loopg [6,8,11,12] fs.length (fun gi av cv nv tv wz=>∃ (i tx:Nat) (cl:Int),nv=.int .i64 (i:Nat)∧av=.int .i64 ((pjC (fs.take i)).length:Nat)∧tv=.int .i64 (tx:Nat)∧cv=.int .i64 cl∧i < fs.length∧yK ((i≤tcol∧tx=0∧cl=-1)∨(tcol < i∧tx=1∧cl=(tcol:Int)))∧(∃ lv,yK (BlD w.heap.size g data 0 lv [] wz))∧yK (Below w.heap.size w wz)∧fs.length - i≤gi)
   case atStart=>exact ⟨0,0,-1,rfl,rfl,rfl,rfl,yY,.inl ⟨aO _,rfl,rfl⟩,⟨lv,HP.o⟩,HB.o,yQ⟩
   case round=>
    clear HP HB;obtain ⟨i,tx,cl,rfl,rfl,rfl,rfl,hH,hJ,⟨lv,HP⟩,HB,iU⟩:=hrel;obtain ⟨s,HE,HF,Hf⟩:=ig.o i hH;have Hx:=HW.o _ (aL hH);have hv:data.data.toList=([]++pjC (fs.take i))++(fs[i].raw++s):=(by rw [HN.o,HE]);have CF:=zW (fun W=>Z5h data ([]++pjC (fs.take i)) s fs[i] W hv Hx HF hsz);rw [bJ] at CF hv;have hX:data.extract (pjC (fs.take i)).length ((pjC (fs.take i)).length+fs[i].raw.length)=ofL fs[i].raw:=T0 data _ _ s _ (by rw [hv];simp) rfl;have hK:(pjC (fs.take i)).length+fs[i].raw.length+s.length=data.size:=(by rw [aC,hv];simp;omega);have hw:=ia.o i hH;have ih:yK (i=tcol→fs[i].raw=C7):=fun e=>by
     subst e;have:=hI.o;rw [aF hH] at this;injection this with this;rw [this];rfl
    have HV:yK (i≠tcol→fs[i].raw≠C7):=fun e=>iN.o i fs[i] (aF hH) e;have hh:=zW (fun (c:UInt8) (q:List UInt8) (e:s=c::q) (p:Nat) (hp:p=(pjC (fs.take i)).length+fs[i].raw.length) (h2:p < data.size)=>show data[p]=c by
     have:=M5 data (pjC (fs.take i)++fs[i].raw) s (by rw [hv];simp) 0 p (by rw [e];simp) (by rw [hp];simp) h2;rw [this];simp [e])
    clear Hx hv HE;generalize hG:fs[i].raw=raw at *;generalize fs[i].quo=quo at *;obtain ⟨p,hp⟩:∃ p,p=(pjC (fs.take i)).length:=⟨_,rfl⟩;rw [←hp] at CF hX hK hw hh Hf ⊢;obtain ⟨p2,hV⟩:∃ p2,p2=p+raw.length:=⟨_,rfl⟩;rw [←hV] at CF hX hK hw hh;have jc:p≤p2:=yY;have iq:p2≤data.size:=yY;have hz:=HB.o.size;have hm:=zW Hf;have hu:=zW hK;have hM:=zW hV;have hw:=zW hw;have HX:=zW hX;have Hm:=zW hp;clear Hf hK hV hp HF;by_cases hit:i=tcol
    ·have Ha:=ih.o hit;subst hit;rcases hJ.o with ⟨_,iw,im⟩ | ⟨h,_,_⟩
     ·subst iw im;have ht:((ofL raw).toList==[116,101,120,116])=true:=(by rw [I7,Ha];rfl);clear Ha ih HV hJ hG;rcases hm.o with ⟨hl1,q,hq⟩ | ⟨hl1,hq,hjl⟩
      ·have hf:p2 < data.size:=(by have:=hu.o;rw [hq] at this;simp at this;omega);have hD:¬ (data.size:Int)≤(p2:Int):=yY;have hc:=hh.o 44 q hq p2 rfl hf;have n10:((data[p2].toNat:Int)==10)=false:=(by rw [hc];rfl);have HS:yK ((p2:Int)+1=((pjC (fs.take (i+1))).length:Nat)):=(by show _=_;have:=hw.o;omega);clear hc hq hm;go_wp2_with (go_at_call 197;refine (CF.o _).mono ?_;rintro e w2 ⟨rfl,he⟩;have hj:=zW (HP.o.below he);have hi:=zW (HB.o.trans (he.mono hz));clear he)
       rw [HS.o];go_roundg (fs.length - (i+1))
       case measure=>omega
       case rel=>exact ⟨i+1,1,(i:Int),rfl,rfl,rfl,rfl,hl1,.inr ⟨yY,rfl,rfl⟩,⟨lv,hj.o⟩,hi.o,yQ⟩
      ·have hl:yK ((p2:Int)+1=((((U9 a b (rs.take 0)).length+1:Nat):Nat):Int)):=by
        show _=_;have h1:(U9 a b (rs.take 0)).length=(K3 fs).length:=(by rw [iB.o];simp [U9]);have:=hM.o;rw [h1];omega
       have Hj:yK ((i:Int)+1=((i+1+b.length:Nat):Int)):=(by show _=_;omega);rcases Hr.o with hS | ⟨q,hS⟩
       ·have hD:(data.size:Int)≤(p2:Int):=(by have:=hu.o;rw [hq,hS] at this;simp at this;omega);clear hq hm hS hjl;go_wp2_with (go_at_call 197;refine (CF.o _).mono ?_;rintro e w2 ⟨rfl,he⟩;have hj:=zW (HP.o.below he);have hi:=zW (HB.o.trans (he.mono hz));clear he)
        rw [hl.o,Hj.o];go_roundg (rs.length+1)
        case measure=>omega
        case rel=>exact ⟨1,_,_,_,rfl,rfl,rfl,rfl,yY,.inr ⟨0,rfl,rfl,rfl,rfl⟩,⟨lv,hj.o⟩,hi.o,yY⟩
       ·have hf:p2 < data.size:=(by have:=hu.o;rw [hq,hS] at this;simp at this;omega);have hD:¬ (data.size:Int)≤(p2:Int):=yY;have hc:=hh.o 10 q (hq.trans hS) p2 rfl hf;have n10:((data[p2].toNat:Int)==10)=true:=(by rw [hc];rfl);clear hc hq hm hS hjl;go_wp2_with (go_at_call 197;refine (CF.o _).mono ?_;rintro e w2 ⟨rfl,he⟩;have hj:=zW (HP.o.below he);have hi:=zW (HB.o.trans (he.mono hz));clear he)
        rw [hl.o,Hj.o];go_roundg (rs.length+1)
        case measure=>omega
        case rel=>exact ⟨1,_,_,_,rfl,rfl,rfl,rfl,yY,.inr ⟨0,rfl,rfl,rfl,rfl⟩,⟨lv,hj.o⟩,hi.o,yY⟩
     ·omega
    ·have Ha:=HV.o hit;have ht:((ofL raw).toList==[116,101,120,116])=false:=(by rw [I7,aI];exact Ha);clear Ha ih HV hG;rcases hm.o with ⟨hl1,q,hq⟩ | ⟨hl1,hq,hjl⟩
     ·have hf:p2 < data.size:=(by have:=hu.o;rw [hq] at this;simp at this;omega);have hD:¬ (data.size:Int)≤(p2:Int):=yY;have hc:=hh.o 44 q hq p2 rfl hf;have n10:((data[p2].toNat:Int)==10)=false:=(by rw [hc];rfl);have HS:yK ((p2:Int)+1=((pjC (fs.take (i+1))).length:Nat)):=(by show _=_;have:=hw.o;omega);clear hc hq hm;go_wp2_with (go_at_call 197;refine (CF.o _).mono ?_;rintro e w2 ⟨rfl,he⟩;have hj:=zW (HP.o.below he);have hi:=zW (HB.o.trans (he.mono hz));clear he)
      rw [HS.o];go_roundg (fs.length - (i+1))
      case measure=>omega
      case rel=>exact ⟨i+1,tx,cl,rfl,rfl,rfl,rfl,hl1,by (rcases hJ.o with ⟨h,h2,h3⟩ | ⟨h,h2,h3⟩);exact .inl ⟨yY,h2,h3⟩;exact .inr ⟨yY,h2,h3⟩,⟨lv,hj.o⟩,hi.o,yQ⟩
     ·have hl:yK ((p2:Int)+1=((((U9 a b (rs.take 0)).length+1:Nat):Nat):Int)):=by
       show _=_;have h1:(U9 a b (rs.take 0)).length=(K3 fs).length:=(by rw [iB.o];simp [U9]);have:=hM.o;rw [h1];omega
      have Hj:yK ((i:Int)+1=((tcol+1+b.length:Nat):Int)):=(by show _=_;omega);obtain ⟨iw,im⟩:tx=1∧cl=(tcol:Int):=by
       rcases hJ.o with ⟨h,_,_⟩ | ⟨_,h2,h3⟩
       ·omega
       ·exact ⟨h2,h3⟩
      subst iw im;rcases Hr.o with hS | ⟨q,hS⟩
      ·have hD:(data.size:Int)≤(p2:Int):=(by have:=hu.o;rw [hq,hS] at this;simp at this;omega);clear hq hm hS hjl;go_wp2_with (go_at_call 197;refine (CF.o _).mono ?_;rintro e w2 ⟨rfl,he⟩;have hj:=zW (HP.o.below he);have hi:=zW (HB.o.trans (he.mono hz));clear he)
       rw [hl.o,Hj.o];go_roundg (rs.length+1)
       case measure=>omega
       case rel=>exact ⟨1,_,_,_,rfl,rfl,rfl,rfl,yY,.inr ⟨0,rfl,rfl,rfl,rfl⟩,⟨lv,hj.o⟩,hi.o,yY⟩
      ·have hf:p2 < data.size:=(by have:=hu.o;rw [hq,hS] at this;simp at this;omega);have hD:¬ (data.size:Int)≤(p2:Int):=yY;have hc:=hh.o 10 q (hq.trans hS) p2 rfl hf;have n10:((data[p2].toNat:Int)==10)=true:=(by rw [hc];rfl);clear hc hq hm hS hjl;go_wp2_with (go_at_call 197;refine (CF.o _).mono ?_;rintro e w2 ⟨rfl,he⟩;have hj:=zW (HP.o.below he);have hi:=zW (HB.o.trans (he.mono hz));clear he)
       rw [hl.o,Hj.o];go_roundg (rs.length+1)
       case measure=>omega
       case rel=>exact ⟨1,_,_,_,rfl,rfl,rfl,rfl,yY,.inr ⟨0,rfl,rfl,rfl,rfl⟩,⟨lv,hj.o⟩,hi.o,yY⟩
  ·rw [fM] at HP;by_cases hlt:k' < rs.length
   ·clear HJ;have hr:=aL hlt;have hF:=iQ.o _ hr;have hE:=HT.o k' rs[k'] (aF hlt);have iJ:rs=rs.take k'++rs[k']::rs.drop (k'+1):=(by rw [←aQ hlt,bR]);have Hc:rs.take (k'+1)=rs.take k'++[rs[k']]:=aH hlt;have hs:data.data.toList=(U9 a b (rs.take k')++[10])++(K3 (Q0q rs[k'])++P4 (rs.drop (k'+1)) []):=by
     have h1:=Q4s a b (rs.take k') (rs[k']::rs.drop (k'+1)) [];rw [←iJ,aX,Q3r] at h1;rw [HD.o,h1,Q4u];simp
    have Hb:Q9o (P4 (rs.drop (k'+1)) []):=Q5y _ [] (.inl rfl);have Hv:(Q0q rs[k']).length=a.length+1+b.length:=(by rw [Y9c,hF.pre,hF.post]);have HW:=zW (Z6h rs[k'] hF.okA hF.okB hF.raw.els);have hI:=zW (Z6g rs[k']);rw [hF.pre] at hI;have HK:=zW (Y9b rs[k'] a.length hF.pre);have Hk:yK ((U9 a b (rs.take (k'+1))).length=(U9 a b (rs.take k')).length+1+(K3 (Q0q rs[k'])).length):=(by show _=_;rw [Hc,X0e,Q4u];simp;omega);have ii:yK (Z6 a b (rs.take (k'+1))=O7 (Z6 a b (rs.take k')) rs[k']):=(by show _=_;rw [Hc,Y0c]);have jf:(Z6 a b (rs.take k')).1.length≤8:=(by rw [Q2o];have:=eQ k' rs;omega);have iC:=Q1n a b (rs.take k');have Hz:=hF.raw;generalize rs[k']=r at *;generalize P4 (rs.drop (k'+1)) []=S at *;have HN:=zW hs;have hy:=zW iC;have Hr:=zW Hb;have ie:=zW Hz;have iM:=zW hE;have ig:=zW (fun i h=>Y1z (U9 a b (rs.take k')++[10]) S (Q0q r) Hb i h);have ia:=zW (fun i h=>Z6a (Q0q r) i h);have ik:(U9 a b (rs.take k')++[(10:UInt8)]).length=(U9 a b (rs.take k')).length+1:=yW;have hC:(U9 a b (rs.take k')).length+1+(K3 (Q0q r)).length+S.length=data.size:=(by rw [aC,hs];simp;omega);have HQ:=zW hC;have Hi:=zW Hv;have iv:a.length < (Q0q r).length:=yY;have it:=C6 (Z6 a b (rs.take k')).1;have ir:(P1 (Z6 a b (rs.take k')).1).length≤100:=yY;have Hu:(U9 a b (rs.take k')).length+1≤data.size:=yY;have jj:(((k'+1:Nat):Int)==0)=false:=(by rw [aI];omega);have iY:((k':Int)+1==0)=false:=(by rw [aI];omega);have ji:(0:Int) < ((k'+1:Nat):Int):=yY;have iX:(0:Int) < (k':Int)+1:=yY;have Ht:((U9 a b (rs.take k')).length:Int)+1 < (data.size:Int):=by
     have h1:0 < (K3 (Q0q r)).length:=(by rw [Q4u];simp [Q7o];omega);omega
    clear hs Hb hC hF iJ Hc it jf iC Hz hE hr;generalize hP:U9 a b (rs.take k')++[(10:UInt8)]=P at *;have HI:=zW hP;clear hP;rw [←ik] at HQ Hu Hk ⊢;rw [Hv] at iv;have hW:((a.length+1+b.length:Nat):Int)=(((Q0q r).length:Nat):Int):=yY;rw [←Hv] at iv ⊢;generalize Q0q r=fs at *;generalize htk:a.length=tcol at *;clear hW Hv;have ib:=zW ik;have hT:((P.length:Nat):Int) < (data.size:Int):=yY;clear ik Ht;obtain ⟨U0,iS⟩:∃ U0,yK (Z6 a b (rs.take k')=U0):=⟨_,rfl⟩;rw [iS.o] at HP ii hy ir;obtain ⟨Z,hZ⟩:∃ Z,yK (rs.take (k'+1)=Z):=⟨_,rfl⟩;rw [hZ.o] at ii Hk;obtain ⟨P0,ij⟩:∃ P0,P0=P.length:=⟨_,rfl⟩;rw [←ij] at HQ Hu Hk ib hT ⊢;have hR:=zW ij;clear ij;go_wp2_with fail
    go_loopg [6,8,11,12] fs.length (fun gi av cv nv tv wz=>∃ (i fr:Nat) (lv:Value) (ps:List Pt),nv=.int .i64 (i:Nat)∧cv=.int .i64 (tcol:Int)∧tv=.int .i64 0∧av=.int .i64 (P0+(pjC (fs.take i)).length:Nat)∧i < fs.length∧yK ((i≤tcol∧fr=(Z4 U0.1).length∧ps=P1 U0.1)∨(tcol < i∧fr=(Z4 (Z6 a b Z).1).length∧ps=P1 (Z6 a b Z).1))∧yK (BlD w.heap.size g data fr lv ps wz)∧yK (Below w.heap.size w wz)∧fs.length - i≤gi)
    case atStart=>exact ⟨0,_,lv,_,rfl,rfl,rfl,rfl,yY,.inl ⟨aO _,rfl,rfl⟩,HP.o,HB.o,yQ⟩
    case round=>
     clear HP HB;obtain ⟨i,fr,lv,ps,rfl,rfl,rfl,rfl,hH,hJ,HP,HB,iU⟩:=hrel;obtain ⟨s,HE,HF,Hf⟩:=ig.o i hH;have Hx:=HW.o _ (aL hH);have hv:data.data.toList=(P++pjC (fs.take i))++(fs[i].raw++s):=(by rw [HN.o,←HE]);have CF:=zW (fun W=>Z5h data (P++pjC (fs.take i)) s fs[i] W hv Hx HF hsz);have Hd:(P++pjC (fs.take i)).length=P0+(pjC (fs.take i)).length:=(by rw [aA,hR.o]);rw [Hd] at CF;have hK:P0+(pjC (fs.take i)).length+fs[i].raw.length+s.length=data.size:=(by rw [aC,hv];simp [hR.o];omega);have hw:=ia.o i hH;have hh:=zW (fun (c:UInt8) (q:List UInt8) (e:s=c::q) (p:Nat) (hp:p=P0+(pjC (fs.take i)).length+fs[i].raw.length) (h2:p < data.size)=>show data[p]=c by
      have:=M5 data (P++pjC (fs.take i)++fs[i].raw) s (by rw [hv];simp) 0 p (by rw [e];simp) (by rw [hp,hR.o];simp;omega) h2;rw [this];simp [e])
     have HR:yK (i=tcol→fs[i].raw=34::(Q2 r.ts++[34])∧fs[i].quo=true):=fun e=>by
      subst e;have:=hI.o;rw [aF hH] at this;injection this with this;rw [this];exact ⟨rfl,rfl⟩
     have HG:=zW hv;have Hq:=zW Hd;clear Hx HE hv Hd;generalize hG:fs[i].raw=raw at *;generalize fs[i].quo=quo at *;clear hG;obtain ⟨p,hp⟩:∃ p,p=P0+(pjC (fs.take i)).length:=⟨_,rfl⟩;rw [←hp] at CF hK hh Hq ⊢;obtain ⟨p2,hV⟩:∃ p2,p2=p+raw.length:=⟨_,rfl⟩;rw [←hV] at CF hK hh;have jc:p≤p2:=yY;have iq:p2≤data.size:=yY;have hz:=HB.o.size;have hm:=zW Hf;have hu:=zW hK;have hM:=zW hV;have hw:=zW hw;have Hm:=zW hp;have jm:¬ ((fs.length:Nat):Int)≤(i:Int):=yY;have iV:i≤90:=(by have:=Hi.o;omega);clear Hf hK hV hp HF;by_cases hit:i=tcol
     ·obtain ⟨Ha,jd⟩:=HR.o hit;subst hit Ha jd;rcases hJ.o with ⟨_,hU,hY⟩ | ⟨h,_,_⟩
      ·subst hU hY;have iu:(34::(Q2 r.ts++[(34:UInt8)])).length=(Q2 r.ts).length+2:=yW;have ip:p2=p+((Q2 r.ts).length+2):=(by rw [hM.o,iu]);have iI:(Q2 r.ts).length≤65536:=yY;have He:(P++pjC (fs.take i)++[(34:UInt8)]).length=p+1:=(by rw [aA,Hq.o];rfl);have il:data.extract (p+1) (p+1+(Q2 r.ts).length)=ofL (Q2 r.ts):=by
        have:=T0 data (P++pjC (fs.take i)++[34]) (Q2 r.ts) (34::s) (p+1+(Q2 r.ts).length) (by rw [HG.o];simp) (by rw [He]);rwa [He] at this
       have iD:data.extract (Z4 U0.1).length (p+1)=ofL (U0.2++(10::(G0 r.pre++[34]))):=
        T0 data (Z4 U0.1) (U0.2++(10::(G0 r.pre++[34]))) (Q2 r.ts++(34::s)) _ (by rw [HG.o,HK.o,←HI.o,hy.o];simp) (by rw [←He,HK.o,←HI.o,hy.o];simp)
       have hG:(Z4 U0.1).length≤p+1:=(by rw [←He,HK.o,←HI.o,hy.o];simp);obtain ⟨p3,iH⟩:∃ p3,p3=p+1+(Q2 r.ts).length:=⟨_,rfl⟩;have HM:=zW (fun W=>X2k 3 (.inr (.inr rfl)) (ofL (Q2 r.ts)) r.ts W ie.o (by simp [ofL]) (by rw [Q6];exact iI));have HH:=zW (fun w=>X9c (k'+1) yY yY w);rw [←iM.o] at HH;have HU:=zW (fun (lv:Value) (w':World) (h:BlD w.heap.size g data (Z4 U0.1).length lv (P1 U0.1) w')=>(X4t (p+1) (p+1+(Q2 r.ts).length) (ofL r.key) h hG yY yY yY yY).mono fun _ _ ⟨h1,lv',h2,h3,_⟩=>show (∃ v,_=Ending.returned v)∧∃ lv',BlD w.heap.size g data (p+1+(Q2 r.ts).length) lv' _ _∧Below w.heap.size w' _ from ⟨h1,lv',h2,h3⟩);rw [iD,il,show (⟨#[]⟩:fY)=ofL [] from rfl,←Q2j U0.1 ⟨U0.2++(10::(G0 r.pre++[34])),r.key,r.ts⟩] at HU;have Hs:yK ((Z6 a b Z).1=U0.1++[⟨U0.2++(10::(G0 r.pre++[34])),r.key,r.ts⟩]):=(by show _=_;rw [ii.o];rfl);have iy:yK ((Z4 (Z6 a b Z).1).length=p+1+(Q2 r.ts).length):=by
        show _=_;rw [Hs.o,Q2l,←He,HK.o,←HI.o,hy.o];simp;omega
       rw [←iH] at HU iy il;have Hy:p2=p3+1:=yY;have iP:yK (((p2:Nat):Int) - 1=(p3:Int)):=(by show _=_;omega);have ja:p+1≤p3:=yY;have jb:p3≤data.size:=yY;have jg:(1:Int)≤(p2:Int):=yY;have ic:yK (((p+1:Nat):Int)=(p:Int)+1):=rfl;rw [ic.o] at HU;have iO:=zW Hy;clear iu ip iI He iD hG iH hJ HR HG;generalize ofL (Q2 r.ts)=u3 at *;generalize (34::(Q2 r.ts++[34])).length=rl at *;have iT:∀ x:Nat,(x:Int)=(p2:Int) - 1→data.extract (p+1) x=u3:=fun x hx=>by
        have:x=p3:=yY;rw [this];exact il
       subst Hy;have je:((p3+1:Nat):Int) - 1=(p3:Int):=yY;have iK:((p3:Int)+1) - 1=(p3:Int):=yY;clear iT;have HZ:yK (∀ W lv',BlD w.heap.size g data p3 lv' (P1 (U0.1++[⟨U0.2++(10::(G0 r.pre++[34])),r.key,r.ts⟩])) W→BlD w.heap.size g data (Z4 (Z6 a b Z).1).length lv' (P1 (Z6 a b Z).1) W):=fun W lv' h=>by rw [iy.o,Hs.o];exact h
       rcases hm.o with ⟨hl1,q,hq⟩ | ⟨hl1,hq,hjl⟩
       ·have hf:(p3+1) < data.size:=(by have:=hu.o;rw [hq] at this;simp at this;omega);have hD:¬ (data.size:Int)≤(((p3+1):Nat):Int):=yY;have Hw:¬ (data.size:Int)≤(p3:Int)+1:=yY;have hc:=hh.o 44 q hq (p3+1) rfl hf;have n10:((data[(p3+1)].toNat:Int)==10)=false:=(by rw [hc];rfl);have HS:yK ((p3:Int)+1+1=((P0+(pjC (fs.take (i+1))).length:Nat):Int)):=(by show _=_;have:=hw.o;have:=Hm.o;have:=hM.o;omega);clear hc hq hm;go_wp2_with (first
         | (go_at_call 197;refine (CF.o _).mono ?_;rintro e w2 ⟨rfl,he⟩;have hj:=zW (HP.o.below he);have hi:=zW (HB.o.trans (he.mono hz));clear he)
         | (go_at_call 20;refine (HM.o _).mono ?_;rintro e w3 ⟨v3,vc3,rfl,hO,hn,hA⟩;obtain ⟨A3,c3,rfl⟩:=Q0 hO;obtain ⟨A4,c4,rfl⟩:=Q0 hn;have Hn:=zW (hj.o.below hA);have hL:=zW (hi.o.trans (hA.mono hi.o.size));clear hO hn hA)
         | (go_at_call 134;refine (HH.o _).mono ?_;rintro e w4 ⟨rfl,hB⟩;have Ho:=zW (Hn.o.below hB);have Hg:=zW (hL.o.trans (hB.mono hL.o.size));clear hB)
         | (go_at_call 192;refine (HU.o _ _ (by exact Ho.o)).mono ?_;rintro e w5 ⟨⟨v5,rfl⟩,lv5,hQ,hN⟩;have Hp:=zW hQ;have Hh:=zW (Hg.o.trans hN);clear hQ hN))
        rw [HS.o];go_roundg (fs.length - (i+1))
        case measure=>omega
        case rel=>exact ⟨i+1,_,lv5,_,rfl,rfl,rfl,rfl,hl1,.inr ⟨yY,rfl,rfl⟩,HZ.o _ _ Hp.o,Hh.o,yQ⟩
       ·have hl:yK ((p3:Int)+1+1=(((U9 a b Z).length+1:Nat):Int)):=by
         show _=_;have:=Hk.o;have:=hM.o;have:=Hm.o;omega
        have iR:¬ (i:Int)+1 < ((fs.length:Nat):Int):=yY;rcases Hr.o with hS | ⟨q,hS⟩
        ·have hD:(data.size:Int)≤(((p3+1):Nat):Int):=(by have:=hu.o;rw [hq,hS] at this;simp at this;omega);have Hw:(data.size:Int)≤(p3:Int)+1:=yY;clear hq hm hS hjl;go_wp2_with (first
              | (go_at_call 197;refine (CF.o _).mono ?_;rintro e w2 ⟨rfl,he⟩;have hj:=zW (HP.o.below he);have hi:=zW (HB.o.trans (he.mono hz));clear he)
              | (go_at_call 20;refine (HM.o _).mono ?_;rintro e w3 ⟨v3,vc3,rfl,hO,hn,hA⟩;obtain ⟨A3,c3,rfl⟩:=Q0 hO;obtain ⟨A4,c4,rfl⟩:=Q0 hn;have Hn:=zW (hj.o.below hA);have hL:=zW (hi.o.trans (hA.mono hi.o.size));clear hO hn hA)
              | (go_at_call 134;refine (HH.o _).mono ?_;rintro e w4 ⟨rfl,hB⟩;have Ho:=zW (Hn.o.below hB);have Hg:=zW (hL.o.trans (hB.mono hL.o.size));clear hB)
              | (go_at_call 192;refine (HU.o _ _ (by exact Ho.o)).mono ?_;rintro e w5 ⟨⟨v5,rfl⟩,lv5,hQ,hN⟩;have Hp:=zW hQ;have Hh:=zW (Hg.o.trans hN);clear hQ hN))
         rw [hl.o];go_roundg (rs.length - k')
         case measure=>omega
         case rel=>exact ⟨k'+2,_,_,_,rfl,rfl,rfl,rfl,yY,.inr ⟨k'+1,rfl,by rw [hZ.o],Hi.o,rfl⟩,⟨lv5,by show BlD _ _ _ _ _ _ _;rw [show k'+2 - 1=k'+1 by omega,hZ.o];exact HZ.o _ _ Hp.o⟩,Hh.o,yY⟩
        ·have hf:(p3+1) < data.size:=(by have:=hu.o;rw [hq,hS] at this;simp at this;omega);have hD:¬ (data.size:Int)≤(((p3+1):Nat):Int):=yY;have Hw:¬ (data.size:Int)≤(p3:Int)+1:=yY;have hc:=hh.o 10 q (hq.trans hS) (p3+1) rfl hf;have n10:((data[(p3+1)].toNat:Int)==10)=true:=(by rw [hc];rfl);clear hc hq hm hS hjl;go_wp2_with (first
              | (go_at_call 197;refine (CF.o _).mono ?_;rintro e w2 ⟨rfl,he⟩;have hj:=zW (HP.o.below he);have hi:=zW (HB.o.trans (he.mono hz));clear he)
              | (go_at_call 20;refine (HM.o _).mono ?_;rintro e w3 ⟨v3,vc3,rfl,hO,hn,hA⟩;obtain ⟨A3,c3,rfl⟩:=Q0 hO;obtain ⟨A4,c4,rfl⟩:=Q0 hn;have Hn:=zW (hj.o.below hA);have hL:=zW (hi.o.trans (hA.mono hi.o.size));clear hO hn hA)
              | (go_at_call 134;refine (HH.o _).mono ?_;rintro e w4 ⟨rfl,hB⟩;have Ho:=zW (Hn.o.below hB);have Hg:=zW (hL.o.trans (hB.mono hL.o.size));clear hB)
              | (go_at_call 192;refine (HU.o _ _ (by exact Ho.o)).mono ?_;rintro e w5 ⟨⟨v5,rfl⟩,lv5,hQ,hN⟩;have Hp:=zW hQ;have Hh:=zW (Hg.o.trans hN);clear hQ hN))
         rw [hl.o];go_roundg (rs.length - k')
         case measure=>omega
         case rel=>exact ⟨k'+2,_,_,_,rfl,rfl,rfl,rfl,yY,.inr ⟨k'+1,rfl,by rw [hZ.o],Hi.o,rfl⟩,⟨lv5,by show BlD _ _ _ _ _ _ _;rw [show k'+2 - 1=k'+1 by omega,hZ.o];exact HZ.o _ _ Hp.o⟩,Hh.o,yY⟩
      ·omega
     ·have jk:((i:Int)==(tcol:Int))=false:=(by rw [aI];omega);have iz:=zW hit;clear HR HG hit;rcases hm.o with ⟨hl1,q,hq⟩ | ⟨hl1,hq,hjl⟩
      ·have hf:p2 < data.size:=(by have:=hu.o;rw [hq] at this;simp at this;omega);have hD:¬ (data.size:Int)≤((p2:Nat):Int):=yY;have hc:=hh.o 44 q hq p2 rfl hf;have n10:((data[p2].toNat:Int)==10)=false:=(by rw [hc];rfl);have HS:yK ((p2:Int)+1=((P0+(pjC (fs.take (i+1))).length:Nat):Int)):=(by show _=_;have:=hw.o;have:=Hm.o;have:=hM.o;omega);clear hc hq hm;go_wp2_with (go_at_call 197;refine (CF.o _).mono ?_;rintro e w2 ⟨rfl,he⟩;have hj:=zW (HP.o.below he);have hi:=zW (HB.o.trans (he.mono hz));clear he)
       rw [HS.o];go_roundg (fs.length - (i+1))
       case measure=>omega
       case rel=>exact ⟨i+1,fr,lv,ps,rfl,rfl,rfl,rfl,hl1,by (rcases hJ.o with ⟨h,h2,h3⟩ | ⟨h,h2,h3⟩);exact .inl ⟨by have:=iz.o;omega,h2,h3⟩;exact .inr ⟨yY,h2,h3⟩,hj.o,hi.o,yQ⟩
      ·have hl:yK ((p2:Int)+1=(((U9 a b Z).length+1:Nat):Int)):=by
        show _=_;have:=Hk.o;have:=hM.o;have:=Hm.o;omega
       have iR:¬ (i:Int)+1 < ((fs.length:Nat):Int):=yY;obtain ⟨hU,hY⟩:fr=(Z4 (Z6 a b Z).1).length∧ps=P1 (Z6 a b Z).1:=by
        rcases hJ.o with ⟨h,_,_⟩ | ⟨_,h2,h3⟩
        ·have:=iz.o;omega
        ·exact ⟨h2,h3⟩
       subst hU hY;rcases Hr.o with hS | ⟨q,hS⟩
       ·have hD:(data.size:Int)≤((p2:Nat):Int):=(by have:=hu.o;rw [hq,hS] at this;simp at this;omega);clear hq hm hS hjl;go_wp2_with (go_at_call 197;refine (CF.o _).mono ?_;rintro e w2 ⟨rfl,he⟩;have hj:=zW (HP.o.below he);have hi:=zW (HB.o.trans (he.mono hz));clear he)
        rw [hl.o];go_roundg (rs.length - k')
        case measure=>omega
        case rel=>exact ⟨k'+2,_,_,_,rfl,rfl,rfl,rfl,yY,.inr ⟨k'+1,rfl,by rw [hZ.o],Hi.o,rfl⟩,⟨lv,by show BlD _ _ _ _ _ _ _;rw [show k'+2 - 1=k'+1 by omega,hZ.o];exact hj.o⟩,hi.o,yY⟩
       ·have hf:p2 < data.size:=(by have:=hu.o;rw [hq,hS] at this;simp at this;omega);have hD:¬ (data.size:Int)≤((p2:Nat):Int):=yY;have hc:=hh.o 10 q (hq.trans hS) p2 rfl hf;have n10:((data[p2].toNat:Int)==10)=true:=(by rw [hc];rfl);clear hc hq hm hS hjl;go_wp2_with (go_at_call 197;refine (CF.o _).mono ?_;rintro e w2 ⟨rfl,he⟩;have hj:=zW (HP.o.below he);have hi:=zW (HB.o.trans (he.mono hz));clear he)
        rw [hl.o];go_roundg (rs.length - k')
        case measure=>omega
        case rel=>exact ⟨k'+2,_,_,_,rfl,rfl,rfl,rfl,yY,.inr ⟨k'+1,rfl,by rw [hZ.o],Hi.o,rfl⟩,⟨lv,by show BlD _ _ _ _ _ _ _;rw [show k'+2 - 1=k'+1 by omega,hZ.o];exact hj.o⟩,hi.o,yY⟩
   ·have iW:k'=rs.length:=yY;subst iW;rw [aW] at HP ⊢;have io:(U9 a b rs).length=data.size:=(by rw [aC,HD.o]);have Hd:=C6 (Z6 a b rs).1;have hG:(Z4 (Z6 a b rs).1).length≤data.size:=by
     rw [←io,Q1n,aA];omega
    rw [Q2o] at Hd;have iF:data.extract (Z4 (Z6 a b rs).1).length data.size=ofL (Z6 a b rs).2:=B7 _ _ _ (by rw [HD.o,Q1n]);have HC:=zW (X7l HP.o hG yY yY);rw [iF,show (⟨#[]⟩:fY)=ofL [] from rfl,←Q5t] at HC;have iG:(((rs.length+1:Nat):Int)==0)=false:=(by rw [aI];omega);have jl:¬ ((data.size+1:Nat):Int) < (data.size:Int):=yY;have jh:((rs.length:Int)+1==0)=false:=(by rw [aI];omega);have iZ:¬ (data.size:Int)+1 < (data.size:Int):=yY;clear iF hG Hd HJ;rw [io];clear io;go_wp2_with (go_at_call 193;refine (HC.o).mono ?_;rintro e w1 ⟨v,rfl,ho,iE⟩;have HO:=zW ho;have iL:=zW (HB.o.trans iE);obtain ⟨A,c,rfl⟩:=Q0 ho;clear ho iE)
    go_ret3
    rw [iA.o];exact ⟨_,rfl,HO.o,iL.o⟩
theorem V5e (data:fY) (ps:List Pt) (w:World) (hsz:data.size≤65536) (h:Calls prog 168 #[.string data] w (D6 ps w)):
 Calls prog 132 #[.int .i64 1,.string data] w (D6 ps w):=by
 have HC:=zW h;have hz:¬ (65536:Int) < (data.size:Int):=yY;clear h;go_enter func132,ntmps132
 go_wp2_with (go_at_call 168;refine (HC.o).mono ?_;rintro e w1 ⟨v,rfl,ho,hb⟩;obtain ⟨A,c,rfl⟩:=Q0 ho;have HO:=zW ho;have HB:=zW hb;clear ho hb)
 go_ret3
 exact ⟨_,rfl,HO.o,HB.o⟩
theorem V5f (data:fY) (ps:List Pt) (w:World) (hsz:data.size≤65536) (h:Calls prog 169 #[.string data] w (D6 ps w)):
 Calls prog 132 #[.int .i64 2,.string data] w (D6 ps w):=by
 have HC:=zW h;have hz:¬ (65536:Int) < (data.size:Int):=yY;clear h;go_enter func132,ntmps132
 go_wp2_with (go_at_call 169;refine (HC.o).mono ?_;rintro e w1 ⟨v,rfl,ho,hb⟩;obtain ⟨A,c,rfl⟩:=Q0 ho;have HO:=zW ho;have HB:=zW hb;clear ho hb)
 go_ret3
 exact ⟨_,rfl,HO.o,HB.o⟩
theorem V5g (data:fY) (ps:List Pt) (w:World) (hsz:data.size≤65536) (h:Calls prog 170 #[.string data] w (D6 ps w)):
 Calls prog 132 #[.int .i64 3,.string data] w (D6 ps w):=by
 have HC:=zW h;have hz:¬ (65536:Int) < (data.size:Int):=yY;clear h;go_enter func132,ntmps132
 go_wp2_with (go_at_call 170;refine (HC.o).mono ?_;rintro e w1 ⟨v,rfl,ho,hb⟩;obtain ⟨A,c,rfl⟩:=Q0 ho;have HO:=zW ho;have HB:=zW hb;clear ho hb)
 go_ret3
 exact ⟨_,rfl,HO.o,HB.o⟩
def DS.cnt (d:DS):Nat:=d.un.1.length
theorem V0d (d:DS) (h:d.Ok) (hc:d.un.1.length≤8) (hs:d.data.length≤65536) (w:World):
 Calls prog 132 #[.int .i64 d.fmt,.string (ofL d.data)] w (D6 d.ps w):=by
 have hz:(ofL d.data).size≤65536:=(by rw [Q6];exact hs);cases d with
 | mk ms=>exact V5e _ _ w hz (Y9t _ ms w (by simpa [ofL,DS.data,DS.un,X7] using Q6a ms) h.1 h.2 (by rw [←R7];exact hc) hz)
 | rs ls=>exact V5f _ _ w hz (Y9u _ ls w (by simpa [ofL,DS.data,DS.un,X6] using X0l ls) h.1 h.2.1 h.2.2 hz)
 | sh a b rr=>exact V5g _ _ w hz (Y9v _ a b rr w (by simpa [ofL,DS.data,DS.un,U9] using X0m a b rr) h.1 h.2.1 h.2.2.1 h.2.2.2.1 (by rw [←Q2o a b rr];exact hc) h.2.2.2.2.2 hz)
theorem Y9l (fmt:Int) (h:D1 fmt) (w:World):Calls prog 131 #[.int .i64 fmt] w (fun e w'=>e=.returned (.bool true)∧w=w'):=by
 rcases h with rfl | rfl | rfl
 all_goals (
  go_enter func131,ntmps131
  go_wp2_with fail
  go_ret
  exact ⟨rfl,rfl⟩)
theorem Z2x (fmt:Int) (hf:D1 fmt) (data:fY) (ps:List Pt) (h:∀ w,Calls prog 132 #[.int .i64 fmt,.string data] w (D6 ps w)) (w:World):
 Calls prog 85 #[.int .i64 fmt,.string data] w (Z0s fmt ps w):=by
 have CK:=zW (fun w=>Y9l fmt hf w);have CS:=zW h;have HA:=zW ((aB w.heap.size w).alloc yQ (.cells #[.int .i64 0,.slice none 0 0] 41));clear h;go_enter func85,ntmps85
 go_wp2_with (first
  | (go_at_call 131;refine (CK.o _).mono ?_;rintro e w' ⟨rfl,rfl⟩)
  | (go_at_call 132;refine (CS.o _).mono ?_;rintro e w1 ⟨v,rfl,ho,hb⟩;obtain ⟨A,c,rfl⟩:=Q0 ho;have HO:=zW ho;have HB:=zW (HA.o.trans (hb.mono HA.o.size));have q0:w1.cell? ⟨w.heap.size,0,none⟩=some (.int .i64 0):=(hb.cell yW).trans yU;have q1:w1.cell? ⟨w.heap.size,1,none⟩=some (.slice none 0 0):=(hb.cell yW).trans yU;have y0:w1.frozen? ⟨w.heap.size,0,none⟩=false:=(hb.frozen yW).trans yU;have y1:w1.frozen? ⟨w.heap.size,1,none⟩=false:=(hb.frozen yW).trans yU;clear hb ho))
 refine bO (Y9k rfl _ _ w.heap.size fmt A ps.length c _ _ rfl rfl rfl yU yU) rfl ?_;refine ⟨A,c,rfl,Y3 (Q7 HO.o fun k hk=>?_) HA.o.size,(HB.o.setCell (p:=⟨w.heap.size,0,none⟩) yQ _).setCell (p:=⟨w.heap.size,1,none⟩) yQ _⟩;have ha:=(HO.o.lt k hk).1;have hc:k≠w.heap.size:=by
  intro e;rw [e] at ha;simp at ha;omega
 rw [aV _ _ _ _ hc,aV _ _ _ _ hc]
theorem Y9i {fn:Func} {p:Tmp} (h:fn.results=#[.cell p 41]) (tmps:Array Value) (w:World) (g:Nat) (k:Int) (A:Option Addr) (n c:Nat) (hp:tmps.getD p undef=.pointer (some ⟨g,0,none⟩))
 (c0:w.cell? ⟨g,0,none⟩=some (.int .i64 k)) (c1:w.cell? ⟨g,1,none⟩=some (.slice A n c)):
 (results fn tmps).run prog w=.ok (.agg #[.int .i64 k,.slice A n c]) w:=by
 rw [Q4w h,hp];go_simp
theorem But.setO {g b:Nat} {a w:World} (h:But g a w) (hb:a.heap.size≤b) (o:Nat) (u:Value):But g a (w.setCell ⟨b,o,none⟩ u):=
 ⟨h.os,h.tape,h.output,by simpa [World.setCell] using h.size,fun k hk hn=>(aV _ _ _ _ (by show k≠b;omega)).trans (h.block k hk hn)⟩
theorem V1z (L:List Int) (g N n:Nat) (fmt:Int) (hf:D1 fmt) (w:World) (h:Nums w g L N) (hn:n≤3) (hN:N≤10000):
 Calls prog 86 #[.pointer (some ⟨g,0,none⟩),.int .i64 fmt,.int .i64 (n:Nat)] w (fun e w'=>e=.returned (.string (ofL (F8 L N n fmt).data))∧(F8 L N n fmt).data.length≤25000∧But g w w'):=by
 rcases hf with rfl | rfl | rfl
 ·exact Z7o L g N n w h hn hN
 ·exact Z7p L g N n w h hn hN
 ·exact Z7q L g N n w h hn hN
theorem Z8v (L:List Int) (N n:Nat) (hn:n≤3) (fmt:Int) (hf:D1 fmt) (hs:(F8 L N n fmt).data.length≤25000) (w:World):
 Calls prog 85 #[.int .i64 fmt,.string (ofL (F8 L N n fmt).data)] w (Z0s fmt (F8 L N n fmt).ps w):=by
 obtain ⟨h1,h2,h3⟩:=Y8f L N n hn fmt hf;refine Z2x fmt hf _ _ (fun w=>?_) w;have:=V0d (F8 L N n fmt) h1 yY yY w;rw [h2] at this;exact this
def mdF (L:List Int):Int:=1+Q8 L 0 3
theorem V3u (L:List Int):D1 (mdF L):=by
 have:=X5 L 0 3 yX;unfold mdF D1;omega
def mdD (L:List Int):DS:=F8 L 1 3 (mdF L)
theorem Y3u (L:List Int) (g:Nat) (w:World) (h:Nums w g L 0):
 Calls prog 46 #[.pointer (some ⟨g,0,none⟩),.int .i64 3] w (fun e w'=>∃ A c,e=.returned (.agg #[.int .i64 (mdF L),.slice A (mdD L).ps.length c])∧OwnE 52 ptC 3 w' w.heap.size (.slice A (mdD L).ps.length c) (mdD L).ps∧(mdD L).data.length≤25000∧But g w w'):=by
 obtain ⟨R,hm⟩:∃ R:Ending→World→Prop,yK (R=fun e w'=>∃ A c,e=.returned (.agg #[.int .i64 (mdF L),.slice A (mdD L).ps.length c])∧OwnE 52 ptC 3 w' w.heap.size (.slice A (mdD L).ps.length c) (mdD L).ps∧(mdD L).data.length≤25000∧But g w w'):=⟨_,rfl⟩;rw [←hm.o];have hf:=V3u L;have CX:=zW (fun W h=>Z2 L g 0 3 W h yY yX yX);have CD:=zW (fun W h=>V1z L g 1 3 (mdF L) hf W h yX yX);have CP:=zW (fun hs W=>Z8v L 1 3 yX (mdF L) hf hs W);have hv:yK (F8 L 1 3 (mdF L)=mdD L):=rfl;rw [hv.o] at CD CP;have hb:=X5 L 0 3 yX;have hA:=h.lt;have HZ:yK (mdF L=1+Q8 L 0 3):=rfl;obtain ⟨u,hu⟩:∃ u:World,yK (w.alloc (.cells #[.int .i64 0,.slice none 0 0] 41)=u):=⟨_,rfl⟩;have HN:=zW (h.alloc (.cells #[.int .i64 0,.slice none 0 0] 41));have HB:=zW ((But.refl g w).alloc (.cells #[.int .i64 0,.slice none 0 0] 41));have HX:yK ((w.alloc (.cells #[.int .i64 0,.slice none 0 0] 41)).heap[w.heap.size]? =some (.cells #[.int .i64 0,.slice none 0 0] 41)):=aT w _;have HS:yK ((w.alloc (.cells #[.int .i64 0,.slice none 0 0] 41)).heap.size=w.heap.size+1):=(by show _=_;simp);clear h hf;generalize mdD L=d at *;generalize mdF L=fmt at *;have hy:=HZ.o;generalize Q8 L 0 3=z at *;subst hy;clear HZ;go_enter func46,ntmps46
 go_upto_region 1 with fail
 rw [hu.o] at HN HB HX HS ⊢;go_wp2_with (first
  | (go_at_call 34;refine (CX.o _ (by exact HN.o)).mono ?_;rintro e w1 ⟨rfl,hd,hr⟩;have hh:=zW (HB.o.trans hd);have hj:=zW hr;have hn:yK (w1.heap[w.heap.size]? =some (.cells #[.int .i64 0,.slice none 0 0] 41)):=(hd.block _ (by rw [HS.o];omega) yY).trans HX.o;have hg:yK (w.heap.size+1≤w1.heap.size):=HS.o▸hd.size;clear hd hr HN HB HX HS CX)
  | (go_at_call 86;refine (CD.o _ (by exact hj.o)).mono ?_;rintro e w2 ⟨rfl,hl,he⟩;have HL:=zW hl;have hi:=zW (hh.o.trans he);have hp:yK (w2.heap[w.heap.size]? =some (.cells #[.int .i64 0,.slice none 0 0] 41)):=(he.block _ (by have:=hg.o;omega) yY).trans hn.o;have hc:yK (w.heap.size+1≤w2.heap.size):=aP hg.o he.size;clear he hl hj hh hn hg CD)
  | (go_at_call 85;refine (CP.o HL.o _).mono ?_;rintro e w3 ⟨A,c,rfl,ho,ha⟩;have HO:=zW ho;have ht:=zW (hi.o.trans (But.of_below ha));have hw:yK (w3.heap[w.heap.size]? =some (.cells #[.int .i64 0,.slice none 0 0] 41)):=(ha.block _ (by have:=hc.o;omega)).trans hp.o;obtain ⟨q0,q1,y0,y1⟩:=bx2 hw.o;have hz:yK (w2.heap.size≤w3.heap.size):=ha.size;have hB:w.heap.size < w3.heap.size:=bC hc.o ha.size;clear ha ho CP hi hp))
 refine bO (Y9i rfl _ _ w.heap.size (1+z) A d.ps.length c rfl yU yU) rfl ?_;rw [hm.o];refine ⟨A,c,rfl,Y3 (Q7 HO.o fun k hk=>?_) (by have:=hc.o;omega),HL.o,((ht.o.setO yQ _ _).setO yQ _ _).alloc _⟩;have hx:=HO.o.lt k hk;have hq:k≠w.heap.size:=(by have:=hc.o;omega);rw [bE _ _ _ (by simpa using hx.2),aV _ _ _ _ hq,aV _ _ _ _ hq]
theorem V3t (L:List Int) (A0:Option Addr) (c0:Nat) (w:World) (h:RdE V7 1 w (.slice A0 L.length c0) L) (hL:∀ x∈L,H7 x):
 Calls prog 17 #[.slice A0 L.length c0] w (fun e w'=>∃ A c,e=.returned (.agg #[.int .i64 (mdF L),.slice A (mdD L).ps.length c])∧OwnE 52 ptC 3 w' w.heap.size (.slice A (mdD L).ps.length c) (mdD L).ps∧(mdD L).data.length≤25000∧Below w.heap.size w w'):=by
 obtain ⟨R,hb⟩:∃ R:Ending→World→Prop,yK (R=fun e w'=>∃ A c,e=.returned (.agg #[.int .i64 (mdF L),.slice A (mdD L).ps.length c])∧OwnE 52 ptC 3 w' w.heap.size (.slice A (mdD L).ps.length c) (mdD L).ps∧(mdD L).data.length≤25000∧Below w.heap.size w w'):=⟨_,rfl⟩;rw [←hb.o];have HN:yK (Nums ((w.alloc (.cells #[.int .i64 0,.slice none 0 0] 41)).alloc (.cells #[.slice A0 L.length c0,.int .i64 0] 29)) (w.heap.size+1) L 0):=by
  refine ⟨.slice A0 L.length c0,w,?_,h,yY,fun k hk=>?_,hL⟩
  ·have:=aT (w.alloc (.cells #[.int .i64 0,.slice none 0 0] 41)) (.cells #[.slice A0 L.length c0,.int .i64 0] 29);simpa using this
  ·rw [bE _ _ _ yV,bE _ _ _ hk]
 have HB:yK (Below w.heap.size w ((w.alloc (.cells #[.int .i64 0,.slice none 0 0] 41)).alloc (.cells #[.slice A0 L.length c0,.int .i64 0] 29))):=((aB w.heap.size w).alloc yQ _).alloc yW _;have HX:yK (((w.alloc (.cells #[.int .i64 0,.slice none 0 0] 41)).alloc (.cells #[.slice A0 L.length c0,.int .i64 0] 29)).heap[w.heap.size]? =some (.cells #[.int .i64 0,.slice none 0 0] 41)):=(bE _ _ _ yW).trans (aT w _);have HS:yK (((w.alloc (.cells #[.int .i64 0,.slice none 0 0] 41)).alloc (.cells #[.slice A0 L.length c0,.int .i64 0] 29)).heap.size=w.heap.size+2):=(by show _=_;simp);have CD:=zW (fun W h=>Y3u L (w.heap.size+1) W h);clear h;generalize mdD L=d at *;generalize mdF L=z at *;go_enter func17,ntmps17
 go_wp2_with (go_at_call 46;refine (CD.o _ (by exact HN.o)).mono ?_;rintro e w3 ⟨A,c,rfl,ho,hl,ha⟩;have HL:=zW hl;have HO:=zW ho;have hd:=zW (HB.o.trans (ha.below (B:=w.heap.size) yY (by rw [HS.o];omega)));have he:yK (w3.heap[w.heap.size]? =some (.cells #[.int .i64 0,.slice none 0 0] 41)):=(ha.block _ (by rw [HS.o];omega) yY).trans HX.o;obtain ⟨q0,q1,y0,y1⟩:=bx2 he.o;have hg:w.heap.size < w3.heap.size:=bC (by rw [HS.o];omega) ha.size;clear ha ho CD HB HX HN)
 refine bO (Y9i rfl _ _ w.heap.size z A d.ps.length c rfl yU yU) rfl ?_;rw [hb.o];have hs:=HS.o;refine ⟨A,c,rfl,Y3 (Q7 HO.o fun k hk=>?_) yY,HL.o,(hd.o.setCell (p:=⟨w.heap.size,0,none⟩) yQ _).setCell (p:=⟨w.heap.size,1,none⟩) yQ _⟩;have hf:=HO.o.lt k hk;have hc:k≠w.heap.size:=yY;rw [aV _ _ _ _ hc,aV _ _ _ _ hc]
end Go.Proofs.YtfkojnofbpdjdaaGreatDoor
namespace Go.Proofs.YtfkojnofbpdjdaaGreatDoor
open Go.Proofs.Tryz
open Go.ChangeShapes Go.WideShapes Go.ChangeAt Go.RowKit
theorem Q7r {H:Type} {enc:TypeId×Value→H} {a:Assume} {C:Checked} {os:Os} {f:FuncId} {fn:Func} {s:ChangeSpec} {conds:List PathCond} {apart fresh handsOn again:Bool} {X:World→Array Value→Prop}
 (hX:∀ (w w':World) (args:Array Value),w.heap=w'.heap→X w args→X w' args)
 (own:ownKnob C.prog.godebug=none) (started:os.Started) (noInit:C.prog.inits.idxOf? f=none) (hfn:C.prog.funcs[f]? =some fn)
 (witness:∃ (w:World) (tape:Tape) (i:Input),w.os=os∧(w.forCall tape i).Shaped C.prog∧i.vars=[]∧Input.okWide C.prog (w.forCall tape i) .any w.heap.size f i∧
   ((s.pre enc C.prog fn conds apart (w.forCall tape i).memory i.args∧X (w.forCall tape i).memory i.args)∧sizedMet enc C.prog fn (OpenSpec.ofChange s) apart (w.forCall tape i).memory i.args)∧a.holds C.prog (lone (Frame.enter C.prog f i.args .normal) [] (w.forCall tape i)))
 (contract:∀ (W:World) (base:Nat) (args:Array Value) (ds gs:List (DataW H)) (before:List MemPlace),
   (∀ (j:Nat) t v,fn.params[j]? =some t→args[j]? =some v→Value.okWide C.prog W .any base t v)→
   DataW.Whole enc C.prog fn.params.toList s.vars apart W args.toList ds gs before→
   conds.all (PathCond.test C.prog ⟨fn.params.toList,ds,s.plain.varTypes C.prog,gs⟩)=true→
   (DataW.weightsEach C.prog (fn.params.toList++s.plain.varTypes C.prog) (ds++gs)).all (·≤reachBytes)=true→W.ShapedOpen C.prog→X W args→
   a.holds C.prog (lone (Frame.enter C.prog f args .normal) [] W)→
   Calls C.prog f args W fun e W'=>∃ v,e=.returned v∧s.post enc C.prog fn apart fresh handsOn again W args v W'):
 ReturnsInHanded a C os f .any (fun w args=>(s.pre enc C.prog fn conds apart w args∧X w args)∧sizedMet enc C.prog fn (OpenSpec.ofChange s) apart w args) (s.post enc C.prog fn apart fresh handsOn again):=by
 refine returnsInHanded_of_calls own started noInit witness ?_;intro w tape i _ hsh _ hok hpre hholds;obtain ⟨_,_,_,fn',ha,_,_,_,_,hb⟩:=hok;have e:fn'=fn:=eA (ha.symm.trans hfn);subst e;obtain ⟨⟨⟨ds,gs,before,hw,hc⟩,hx⟩,hz⟩:=hpre;have hd:=DataW.Whole.of_heap (w':=w.forCall tape i) (by rfl) hw;refine (contract (w.forCall tape i) w.heap.size i.args ds gs before hb hd hc (hz.weights hw) hsh (hX _ _ _ (by rfl) hx) hholds).mono fun e W' ⟨v,he,hp⟩=>?_;subst he;exact ChangeSpec.post_blind hp
def Got (w:World):Prop:=∃ m,w.cell? ⟨0,0,none⟩=some (.int .i64 m)
theorem U1l {W:World} (h:W.ShapedOpen prog):Got W:=
 cell_of_shapedOpen_int (zero:=#[.int .i64 0]) (t:=3) h (fX yZ) yZ rfl yZ yZ underlying3
end Go.Proofs.YtfkojnofbpdjdaaGreatDoor
