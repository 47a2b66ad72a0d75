/-
  Contracts and plain laws that this claim leans on, part 4.
-/
import Derived.Test.YtfkojnofbpdjdaaGreatDoorPackB3
import Derived.Test.YtfkojnofbpdjdaaGreatDoorPackB2
import Derived.Test.YtfkojnofbpdjdaaGreatDoorPackB1
import Derived.Shelf.Strings.SlTrimAscii
import Derived.Maps.Own
import Derived.Maps.OwnOps
import Derived.Maps.Views
import Derived.Lib.AppendZeros
import Derived.Shelf.Strings.Builder1
import Derived.Maps.OwnSet
set_option linter.unusedVariables false
set_option linter.unusedSimpArgs false
set_option maxHeartbeats 16000000
set_option maxRecDepth 100000
namespace Go.Proofs.YtfkojnofbpdjdaaGreatDoor
open Tryz
open Go.RowKit
theorem V1c (s:fY):s++(⟨#[]⟩:fY)=s:=by
 apply cB;apply bX.1;simp
theorem Y1s (fmt:Int):∀ (f:List Tk),(∀ x∈f,x.t.size≤1024)→(V3 fmt f).length≤5123 * f.length
 | [],_=>by simp [V3]
 | x::f,h=>by
   have h1:=Q2s fmt x;have h2:=Y1s fmt f fun y hy=>h y (by simp [hy]);have h3:=h x yW;rw [show V3 fmt (x::f)=V6 fmt x++V3 fmt f from rfl,aA,aG];omega
theorem Y9d (fmt:Int) (hf:D1 fmt) (f:List Tk) (v:Value) (w:World) (h1:RdT w v f) (hv:ValF f) (hnb:fmt=1→Q5e f) (hpl:fmt≠1→∀ x∈f,V8 x):
 Calls prog 22 #[.int .i64 fmt,v] w fun e w'=>e=.returned (.tuple #[.string (ofL (V3 fmt f)),.int .i64 0])∧Below w.heap.size w w':=by
 obtain ⟨R,hu⟩:∃ R:Ending→World→Prop,yK (R=fun e w'=>e=.returned (.tuple #[.string (ofL (V3 fmt f)),.int .i64 0])∧Below w.heap.size w w'):=⟨_,rfl⟩;rw [←hu.o];obtain ⟨A,c,rfl,_,_⟩:=h1.shape;have hs:=Q8a f hv;have hw:=zW hs;have CV:=zW (Y9x f _ w h1 hv (fun y hy=>by have:=hs y hy;omega));have hX:=hv.len;have H1:=zW h1;have HV:=zW hv;have hL:=zW hf;have hN:=zW hnb;have hO:=zW hpl;clear h1 hv hs hf hnb hpl;go_enter func22,ntmps22
 go_wp2_with (go_at_call 49;refine (CV.o).mono ?_;rintro e w0 ⟨rfl,hz⟩;have hG:=zW hz;clear hz)
 go_loopg [7,18] f.length (fun gk sv iv wr=>∃ i:Nat,iv=.int .i64 i∧sv=.string (ofL (V3 fmt (f.take i)))∧i≤f.length∧yK (Below w.heap.size w wr)∧f.length - i≤gk)
 case atStart=>exact ⟨0,rfl,rfl,aO _,hG.o,yQ⟩
 case round=>
  obtain ⟨i,rfl,rfl,hi,HB,hgk⟩:=hrel;by_cases hlt:i < f.length
  ·have hV:(i:Int) < (f.length:Int):=yY;have hU:(0:Int)≤(i:Int):=yY;obtain ⟨b,o,hA,hb,p0,p1,p2⟩:=RdT.at_ H1.o i hlt;subst hA;have q0:=(HB.o.cell (p:=⟨b,o+i * 3,none⟩) hb).trans p0;have q1:=(HB.o.cell (p:=⟨b,o+i * 3+1,none⟩) hb).trans p1;have q2:=(HB.o.cell (p:=⟨b,o+i * 3+2,none⟩) hb).trans p2;have he:=aL hlt;have hn:=zW (Q8g fmt f i hlt);have hS:(ofL (V3 fmt (f.take i))).size≤2700000:=by
    rw [Q6];have h1:=Y1s fmt (f.take i) (fun x hx=>hw.o x (bY hx));have h2:=eQ i f;omega
   have hD:=hw.o _ he;have hC:=HV.o.wf _ he;have hj:yK (N7 f[i]→fmt=1∧U4 (Z0 f[i].t.data.toList)=false):=fun ht=>by
    by_cases h1:fmt=1
    ·exact ⟨h1,hN.o h1 _ he ht⟩
    ·have:=hO.o h1 _ he;unfold N7 at ht;rcases this with h | ⟨h,_⟩<;>omega
   clear p0 p1 p2 he;generalize f[i]=x at q0 q1 q2 hn hD hC hj;obtain ⟨xk,xt,xd⟩:=x;simp only at q0 q1 q2 hD;have hF:=HB.o.size;have HX:yK ((wr.alloc (.cells #[.int .i64 xk,.string xt,.int .i64 xd] 31)).heap[wr.heap.size]? =some (.cells #[.int .i64 xk,.string xt,.int .i64 xd] 31)):=aY;have hd:=zW (HB.o.alloc hF (.cells #[.int .i64 xk,.string xt,.int .i64 xd] 31));have hc:wr.heap.size < (wr.alloc (.cells #[.int .i64 xk,.string xt,.int .i64 xd] 31)).heap.size:=yW;obtain ⟨q,hq⟩:∃ q,yK (q=wr.heap.size):=⟨_,rfl⟩;obtain ⟨S,hm⟩:∃ S,yK (ofL (V3 fmt (f.take i))=S):=⟨_,rfl⟩;rw [hm.o] at hS ⊢;go_upto_region 9 with fail
   rw [←hq.o] at HX hc ⊢;generalize wr.alloc (.cells #[.int .i64 xk,.string xt,.int .i64 xd] 31)=w1 at HX hd hc ⊢;clear HB hF q0 q1 q2 hb;obtain ⟨x0,x1,x2,_⟩:=bx3 HX.o;rcases hC with hk | ⟨hk,_⟩ | ⟨hk,_⟩ | ⟨hk,_⟩
   ·have hk':xk=1:=hk;subst hk';have CT:=zW (R5 1 xt xd w1 false yX);have HE:yK (V6 fmt ⟨1,xt,xd⟩=xt.data.toList.flatMap (N5 fmt)):=rfl;clear hk hj;go_wp2_with (go_at_call 50;refine (CT.o).mono ?_;rintro e w2 ⟨rfl,ha⟩;have hg:=zW (hd.o.trans (ha.mono hd.o.size));have hh:=zW ((ha.block q hc).trans HX.o);have hp:q < w2.heap.size:=bC hc ha.size;clear ha;obtain ⟨y0,y1,y2,_⟩:=bx3 hh.o)
    have CBY:=zW (fun (c:UInt8) (W:World)=>Z9t fmt hL.o c W);have hK:yK (∀ k,(h:k < xt.size)→(xt.data.toList.take (k+1)).flatMap (N5 fmt)=(xt.data.toList.take k).flatMap (N5 fmt)++N5 fmt xt[k]):=fun k h=>by
     have hl:k < xt.data.toList.length:=(by rw [←aC];exact h);rw [aH hl,dE];congr 1;simp;rfl
    have hM:yK (∀ k,((xt.data.toList.take k).flatMap (N5 fmt)).length≤5 * k):=fun k=>by
     have h:∀ l:List UInt8,(l.flatMap (N5 fmt)).length≤5 * l.length:=by
      intro l;induction l with
      | nil=>simp
      | cons c l ih=>rw [dM,aA,aG];have:=X1d fmt c;omega
     have:=h (xt.data.toList.take k);have h2:=eQ k xt.data.toList;omega
    go_loopg [7,10] xt.size (fun gk sv kv wz=>∃ (k:Nat) (U:fY),kv=.int .i64 k∧sv=.string (S++U)∧yK (U=ofL ((xt.data.toList.take k).flatMap (N5 fmt)))∧k≤xt.size∧yK (Below w2.heap.size w2 wz)∧xt.size - k≤gk)
    case atStart=>exact ⟨0,⟨#[]⟩,rfl,congrArg Value.string (V1c S).symm,rfl,aO _,aB _ _,yQ⟩
    case round=>
     obtain ⟨k,U,rfl,rfl,HU,hk,hr,hT⟩:=hrel;obtain ⟨y0,y1,y2,_⟩:=bx3 ((hr.o.block q hp).trans hh.o);by_cases hlk:k < xt.size
     ·have hW:(k:Int) < (xt.size:Int):=yY;have hZ:U.size≤5200:=(by rw [HU.o,Q6];have:=hM.o k;omega);have hR:(ofL (N5 fmt xt[k])).size≤5:=(by rw [Q6];exact X1d _ _);have hJ:=zW (hK.o k hlk);have CBk:=zW (CBY.o xt[k]);generalize hE:ofL (N5 fmt xt[k])=E at *;have hY:(S++U).size≤3000000:=(by rw [bD];omega);have hQ:=hr.o.size;go_wp2_with (go_at_call 52;refine (CBk.o _).mono ?_;rintro e w5 ⟨rfl,hB⟩;have hH:=zW (hr.o.trans (hB.mono hQ));clear hB)
      go_roundg (xt.size - (k+1))
      case measure=>omega
      case rel=>exact ⟨k+1,U++E,rfl,by rw [ByteArray.append_assoc],by (show _=_;rw [hJ.o,I5,←HU.o,hE]),hlk,hH.o,yQ⟩
     ·obtain rfl:k=xt.size:=yY;have hP:yK (U=ofL (V6 fmt ⟨1,xt,xd⟩)):=(by show _=_;rw [HU.o,HE.o,bP (by rw [←aC];exact yQ)]);have hI:=zW (hg.o.trans (hr.o.mono hg.o.size));go_wp2_with fail
      go_roundg (f.length - (i+1))
      case measure=>omega
      case rel=>exact ⟨i+1,rfl,by rw [hn.o,I5,hP.o,hm.o],hlt,hI.o,yQ⟩
   ·have hk':xk=5:=hk;subst hk';have CT:=zW (R5 5 xt xd w1 false yX);have HE:yK (ofL (V6 fmt ⟨5,xt,xd⟩)=⟨#[123]⟩++xt++⟨#[125]⟩):=by
     show _=_;apply cB;apply bX.1;simp [ofL,V6]
    clear hk;clear hj;go_wp2_with (go_at_call 50;refine (CT.o).mono ?_;rintro e w2 ⟨rfl,ha⟩;have hg:=zW (hd.o.trans (ha.mono hd.o.size));have hh:=zW ((ha.block q hc).trans HX.o);have hp:q < w2.heap.size:=bC hc ha.size;clear ha;obtain ⟨y0,y1,y2,_⟩:=bx3 hh.o)
    go_roundg (f.length - (i+1))
    case measure=>omega
    case rel=>exact ⟨i+1,rfl,by rw [hn.o,I5,HE.o,hm.o],hlt,hg.o,yQ⟩
   ·rcases hk with hk | hk
    ·have hk':xk=2:=hk;subst hk';have CT:=zW (R5 2 xt xd w1 true yX);have HE:yK (ofL (V6 fmt ⟨2,xt,xd⟩)=⟨#[60]⟩++xt++⟨#[62]⟩):=by
      show _=_;apply cB;apply bX.1;simp [ofL,V6]
     clear hk;obtain ⟨ho,hb⟩:=hj.o (by unfold N7;simp);subst ho;have CN:=zW (fun W=>B8 xt W yY);rw [show (⟨(M8 xt.data.toList).toArray⟩:fY)=ofL (Z0 xt.data.toList) from rfl] at CN;have CB:=zW (fun W=>Q4t (ofL (Z0 xt.data.toList)) W (by simpa [ofL] using hb));clear hb hj;go_wp2_with (first
      | (go_at_call 50;refine (CT.o).mono ?_;rintro e w2 ⟨rfl,ha⟩;have hg:=zW (hd.o.trans (ha.mono hd.o.size));have hh:=zW ((ha.block q hc).trans HX.o);have hp:q < w2.heap.size:=bC hc ha.size;clear ha;obtain ⟨y0,y1,y2,_⟩:=bx3 hh.o)
      | (go_at_call 36;refine (CN.o _).mono ?_;rintro e w' ⟨rfl,rfl⟩)
      | (go_at_call 51;refine (CB.o _).mono ?_;rintro e w' ⟨rfl,rfl⟩))
     go_roundg (f.length - (i+1))
     case measure=>omega
     case rel=>exact ⟨i+1,rfl,by rw [hn.o,I5,HE.o,hm.o],hlt,hg.o,yQ⟩
    ·have hk':xk=4:=hk;subst hk';have CT:=zW (R5 4 xt xd w1 true yX);have HE:yK (ofL (V6 fmt ⟨4,xt,xd⟩)=⟨#[60]⟩++xt++⟨#[47,62]⟩):=by
      show _=_;apply cB;apply bX.1;simp [ofL,V6]
     clear hk;obtain ⟨ho,hb⟩:=hj.o (by unfold N7;simp);subst ho;have CN:=zW (fun W=>B8 xt W yY);rw [show (⟨(M8 xt.data.toList).toArray⟩:fY)=ofL (Z0 xt.data.toList) from rfl] at CN;have CB:=zW (fun W=>Q4t (ofL (Z0 xt.data.toList)) W (by simpa [ofL] using hb));clear hb hj;go_wp2_with (first
      | (go_at_call 50;refine (CT.o).mono ?_;rintro e w2 ⟨rfl,ha⟩;have hg:=zW (hd.o.trans (ha.mono hd.o.size));have hh:=zW ((ha.block q hc).trans HX.o);have hp:q < w2.heap.size:=bC hc ha.size;clear ha;obtain ⟨y0,y1,y2,_⟩:=bx3 hh.o)
      | (go_at_call 36;refine (CN.o _).mono ?_;rintro e w' ⟨rfl,rfl⟩)
      | (go_at_call 51;refine (CB.o _).mono ?_;rintro e w' ⟨rfl,rfl⟩))
     go_roundg (f.length - (i+1))
     case measure=>omega
     case rel=>exact ⟨i+1,rfl,by rw [hn.o,I5,HE.o,hm.o],hlt,hg.o,yQ⟩
   ·have hk':xk=3:=hk;subst hk';have CT:=zW (R5 3 xt xd w1 true yX);have HE:yK (ofL (V6 fmt ⟨3,xt,xd⟩)=⟨#[60,47]⟩++xt++⟨#[62]⟩):=by
     show _=_;apply cB;apply bX.1;simp [ofL,V6]
    clear hk;obtain ⟨ho,hb⟩:=hj.o (by unfold N7;simp);subst ho;have CN:=zW (fun W=>B8 xt W yY);rw [show (⟨(M8 xt.data.toList).toArray⟩:fY)=ofL (Z0 xt.data.toList) from rfl] at CN;have CB:=zW (fun W=>Q4t (ofL (Z0 xt.data.toList)) W (by simpa [ofL] using hb));clear hb hj;go_wp2_with (first
     | (go_at_call 50;refine (CT.o).mono ?_;rintro e w2 ⟨rfl,ha⟩;have hg:=zW (hd.o.trans (ha.mono hd.o.size));have hh:=zW ((ha.block q hc).trans HX.o);have hp:q < w2.heap.size:=bC hc ha.size;clear ha;obtain ⟨y0,y1,y2,_⟩:=bx3 hh.o)
     | (go_at_call 36;refine (CN.o _).mono ?_;rintro e w' ⟨rfl,rfl⟩)
     | (go_at_call 51;refine (CB.o _).mono ?_;rintro e w' ⟨rfl,rfl⟩))
    go_roundg (f.length - (i+1))
    case measure=>omega
    case rel=>exact ⟨i+1,rfl,by rw [hn.o,I5,HE.o,hm.o],hlt,hg.o,yQ⟩
  ·obtain rfl:i=f.length:=yY;rw [aW];go_wp2_with fail
   first | go_ret2 | skip
   rw [hu.o];exact ⟨rfl,HB.o⟩
def bL (n k:Nat):Array Bool:=((List.range n).map fun i=>k.testBit i).toArray
section
variable {P:Program} {ops:Array Oper} {a:Act} {w:World} {oi:Oper} {md:Region.Mode} {QE:Exit→Act→World→Prop} {fuel:Nat} {listed:Array Bool} {rs:List Oper}
theorem zqD (i n:Nat) (hi0:ops.toList.drop i=oi::rs) {t t2:TypeId} {x y:Operand} (ho:oi.op=.binOp .add t x y t2) (s u:ByteArray)
 (h:wpAny P md ops QE fuel (listed.setIfInBounds i true) (a.put (some n) (.string (s++u))) w) (hx:a.eval x=.string s:=by kernel_rfl) (hy:a.eval y=.string u:=by kernel_rfl)
 (hr:∀ w:World,(do eqGuard .add t x y (.string s) (.string u);Go.binOp .add t (.string s) (.string u):Sem Value).run P w=.ok (.string (s++u)) w:=by intro _;first | (go_simp;done) | (go_simp;omega))
 (hd:oi.dst=some n:=by rfl) (hc:Q9d md ops listed i oi a true=true:=by kernel_rfl) (hQ:∀ c a w,QE (.panic c) (a.put oi.dst (.string (s++u))) w→QE (.panic c) a w:=by exact fun _ _ _ h=>h):wpAny P md ops QE (fuel+1) listed a w:=
 zzA i (.string (s++u)) (some n) hi0 (fun w=>Y7d .add t t2 x y (.string s) (.string u) _ ho hx hy (hr w)) h hd hc hQ
end
theorem V2l {o:Oper} {a:Act} {w:World} (x y z:Operand) (k:Int) (s:fY) (d:Int) (ho:o.op=.build 31 #[(0,x),(1,y),(2,z)]) (hx:a.eval x=.int .i64 k) (hy:a.eval y=.string s) (hz:a.eval z=.int .i64 d):(execOp a.eval o).run prog w=.ok (.value (.agg #[.int .i64 k,.string s,.int .i64 d])) w:=by
 generalize a.eval=ρ at hx hy hz ⊢;unfold execOp;simp only [ho];go_simp
theorem V7t {o:Oper} {a:Act} {w:World} (x:Operand) (k:Int) (s:fY) (d:Int) (ho:o.op=.buildSlice 24 1 #[(0,x)]) (hx:a.eval x=.agg #[.int .i64 k,.string s,.int .i64 d]):(execOp a.eval o).run prog w=.ok (.value (.slice (some ⟨w.heap.size,0,none⟩) 1 1)) (w.alloc (.cells #[.int .i64 k,.string s,.int .i64 d] 31)):=by
 generalize a.eval=ρ at hx ⊢;unfold execOp;simp only [ho];go_simp
theorem Y4k {w:World} {b o:Nat} {x:Int} (h:w.cell? ⟨b,o,none⟩=some (.int .i64 x)):(Instr.loadAt 3 (.pointer (some ⟨b,o,none⟩))).run prog w=.ok (.int .i64 x) w:=by
 go_simp
theorem X3r {a:Act} {w:World} {o:Oper} (x:Operand) (ts:Array TypeId) (vx:Value) (ho:o.op=.call { callee:=.value (.func 36),args:=#[x],argTypes:=ts }) (hx:a.eval x=vx):(execOp a.eval o).run prog w=.ok (.enter 36 #[vx]) w:=by
 have hf:a.eval (.func 36)=.func (.func 36) #[] #[]:=rfl;generalize a.eval=ρ at hx hf ⊢;unfold execOp;simp only [ho];go_simp
def Q0y (g:Nat) (L:List Int) (r:List Tk×Nat) (w:World) (e:Ending) (w':World):Prop:=∃ v,e=.returned v∧OwnT 31 w' w.heap.size v r.1∧But g w w'∧Nums w' g L r.2
theorem Y0q (L:List Int) (g N:Nat) (n:Nat) (w:World) (h:Nums w g L N) (hn:n≤8) (hN:N≤1000000):
 Calls prog 9 #[.pointer (some ⟨g,0,none⟩),.int .i64 n,.bool true,.bool true] w (Q0y g L (U8 true L N n) w):=by
 obtain ⟨R,hT⟩:∃ R,yK (R=Q0y g L (U8 true L N n) w):=⟨_,rfl⟩;rw [←hT.o];obtain ⟨tgt,HT⟩:∃ tgt,yK (D7 true L (Q8 L N ((n:Int)+1)).toNat ⟨[],[],0,N+1⟩=tgt):=⟨_,rfl⟩;have HA:yK (U8 true L N n=(tgt.f++K2 tgt.op,tgt.N)):=by
  show _=_;rw [←HT.o];rfl
 rw [HA.o] at hT;have hb:=X5 L N ((n:Int)+1) yY;have Hz:=zW (Z2 L g N ((n:Int)+1) w h yY yY yY);have ip:=h.lt;generalize Q8 L N ((n:Int)+1)=z at HT hb Hz;obtain ⟨m,rfl⟩:∃ m:Nat,z=(m:Int):=⟨z.toNat,yY⟩;rw [cH] at HT;have hm:m≤8:=yY;clear h HA;go_enter func9,ntmps9
 go_wp2_with fail
 refine (Hz.o).mono ?_;rintro e w1 ⟨rfl,hb1,hn1⟩;have Hr:=zW hb1;have Hy:=zW hn1;clear hb1 hn1;go_wp2_with fail
 obtain ⟨wo,He⟩:∃ wo,yK (wo=w1):=⟨w1,rfl⟩;go_loopg [9,10,11,12] m (fun gk fv ov dv iv wr=>∃ (s:FS) (i r:Nat),dv=.int .i64 s.id∧iv=.int .i64 i∧r+i=m∧s.N≤N+1+9 * r∧yK (FGK true s r)∧yK (OwnT 31 wr w.heap.size fv s.f)∧yK (OwnT 31 wr w.heap.size ov s.op)∧yK (Q3h fv ov)∧yK (But g w wr)∧yK (Nums wr g L s.N)∧yK (D7 true L i s=tgt)∧i≤gk)
 case atStart=>exact ⟨⟨[],[],0,N+1⟩,m,0,rfl,rfl,yY,(by show N+1≤N+1+9 * 0;omega),Q4e true (N+1),OwnE.nil,OwnE.nil,(fun k hk=>by cases hk),Hr.o,Hy.o,HT.o,yQ⟩
 case round=>
  clear He Hr Hy HT;obtain ⟨⟨f,op,id,N'⟩,i,r,rfl,rfl,iO,im,hj,HF,HO,hH,HB,HN,HG,hgk⟩:=hrel;simp only at im HF HN HO;obtain ⟨A1,d1,it⟩:=Q0 HF.o;subst it;obtain ⟨A2,d2,Hq⟩:=Q0 HO.o;subst Hq;have HP:=hj.o.oplen;have hE:=hj.o.len;have il:=hj.o.bytes;have HL:=hj.o.id;simp only at HP hE il HL;cases i with
  | zero=>
    have he:tgt=⟨f,op,id,N'⟩:=HG.o.symm;rw [he] at hT;clear HG he;have iC:f.length≤8∧op.length≤8:=⟨yY,yY⟩;have HK:(K2 op).length=op.length:=(by unfold K2;simp);have Ht:=zW HK;have hU:=zW hj.o.opsz;clear HK hj;go_wp2_with fail
    obtain ⟨wo,He⟩:∃ wo,yK (wo=wr):=⟨wr,rfl⟩;go_loopg [9,15] op.length (fun gk fv kv wr=>∃ (q:Nat) (lf:List Tk) (Af:Option Addr) (cf:Nat),fv=.slice Af lf.length cf∧kv=.int .i64 ((q:Int) - 1)∧q≤op.length∧yK (lf=f++(K2 op).take (op.length - q))∧lf.length≤16 - q∧yK (OwnT 31 wr w.heap.size (.slice Af lf.length cf) lf)∧yK (OwnT 31 wr w.heap.size (.slice A2 op.length d2) op)∧yK (Q3h (.slice Af lf.length cf) (.slice A2 op.length d2))∧yK (But g w wr)∧yK (Nums wr g L N')∧q≤gk)
    case atStart=>exact ⟨op.length,f,A1,d1,rfl,rfl,yQ,(by show _=_;rw [cZ,cW,aX]),yY,HF.o,HO.o,hH.o,HB.o,HN.o,yQ⟩
    case round=>
     clear He HF HO hH HB HN;obtain ⟨q,lf,Af,cf,rfl,rfl,hq,Ha,ir,hJ,Hd,ho,hZ,Hc,iE⟩:=hrel;cases q with
     | zero=>
       have e:lf=f++K2 op:=by
        rw [Ha.o,bP (by rw [Ht.o];omega)]
       go_wp2_with fail
       rw [hT.o];exact ⟨_,rfl,by (show OwnE _ _ _ _ _ _ (f++K2 op));rw [←e];exact hJ.o,hZ.o,Hc.o⟩
     | succ q=>
       rw [show ((q+1:Nat):Int) - 1=(q:Int) by omega];have iL:(0:Int)≤(q:Int):=yY;have HQ:q < op.length:=yY;have iN:(q:Int) < (op.length:Int):=yY;obtain ⟨b,o,Hh,iA,p1,p2,p3⟩:=RdT.at_ (OwnE.rd Q5 Hd.o) q HQ;have hM:yK ((K2 op).take (op.length - q)=(K2 op).take (op.length - (q+1))++[⟨3,J8 op[q].t,op[q].d⟩]):=by
        show _=_;rw [show op.length - q=op.length - (q+1)+1 by omega,aH (by rw [Ht.o];omega)];congr 2;unfold K2;rw [eS,List.getElem_reverse];congr 2
        ·congr 2;congr 1;omega
        ·congr 2;omega
       have hW:=hU.o op[q] (aL HQ);subst Hh;generalize op[q]=y at p2 p3 hM hW;obtain ⟨yk,yt,yd⟩:=y;simp only at p2 p3 hM hW;clear p1;have p1:=p2;have ht:yK (∀ w,Calls prog 36 #[.string yt] w fun e w'=>e=.returned (.string (J8 yt))∧w=w'):=fun w=>B8 yt w yY;have ia:yK (lf++[⟨3,J8 yt,yd⟩]=f++(K2 op).take (op.length - q)):=by
        show _=_;rw [hM.o,Ha.o,aZ]
       generalize hnf:lf.length=nf at ir hJ ho ⊢;have hQ:=zW hnf;clear hnf hM Ha;go_upto_region 36 with fail
       refine zqR (l0:=bL 16 0) 16 kr ?_;show let oo:=_;let q0:=_;let a0:=_;wpAny prog _ oo q0 _ _ a0 _
       intro oo q0 a0;have T:wpAny prog .any oo q0 4 (bL 16 4095) ((((((((((((a0.put (some 125) (.slice Af nf cf)).put (some 126) (.slice (some ⟨b,o,none⟩) op.length d2)).put (some 127) (.int .i64 (q:Int))).put (some 128) (.pointer (some ⟨b,o+q * 3,none⟩))).put (some 129) (.pointer (some ⟨b,o+q * 3+1,none⟩))).put (some 130) (.string yt)).put (some 131) (.string (J8 yt))).put (some 132) (.slice (some ⟨b,o,none⟩) op.length d2)).put (some 133) (.int .i64 (q:Int))).put (some 134) (.pointer (some ⟨b,o+q * 3,none⟩))).put (some 135) (.pointer (some ⟨b,o+q * 3+2,none⟩))).put (some 136) (.int .i64 yd)) wr.drew:=by
        simp only [a0,Act.put,zZ,zY,zX];refine zzA 12 (.agg #[.int .i64 3,.string (J8 yt),.int .i64 yd]) (some 137) rfl (fun _=>V2l (.const (.int .i64 3)) (.tmp 131) (.tmp 136) 3 (J8 yt) yd rfl rfl yZ yZ) ?_;simp only [Act.put,zZ,zY,zX];have hd:=zW (U1 hJ.o (Q1 (aB wr.heap.size wr) 1) yQ);have hy:=zW (U1 Hd.o (Q1 (aB wr.heap.size wr) 1) yQ);have hP:yK (Nums wr.drew g L N'):=zW (Hc.o.keepg fun _ _=>rfl);have hs:yK (But g w wr.drew):=zW (hZ.o.drewN 1);change yK (OwnE 31 tkC 3 wr.drew w.heap.size _ _) at hd hy
        clear p1 p2 p3 hJ Hd Hc hZ;generalize wr.drew=w3 at hd hy hP hs ⊢;have iw:=hs.o.size;have ij:=zW (U1 hd.o ((aB w3.heap.size w3).alloc yQ (.cells (tkC ⟨3,J8 yt,yd⟩).toArray 31)) yQ);refine X0p 13 (some 138) (.slice (some ⟨w3.heap.size,0,none⟩) 1 1) (w3.alloc (.cells (tkC ⟨3,J8 yt,yd⟩).toArray 31)) yZ rfl rfl yZ (V7t (.tmp 137) 3 (J8 yt) yd rfl yZ) ?_;simp only [Act.put,zZ,zY,zX];refine zqo 14 rfl ?_;refine Y5s rfl (.tmp 125) (.tmp 138) 24 31 rfl underlying24 _ tkC 3 32 Z8 rfl yX Q5 D4 w.heap.size (.slice Af nf cf) lf rfl (by have h:=ij.o;simp only [hQ.o] at h;rw [hQ.o];exact h) (.slice (some ⟨w3.heap.size,0,none⟩) 1 1) [⟨3,J8 yt,yd⟩] rfl (Z3 tkC 3 Q5 w3 _ rfl ⟨3,J8 yt,yd⟩ 31) (by rw [hQ.o,bZ];omega) yX yV ?_;intro v9 w9 hc hbel9 hgr9 hat9;obtain ⟨A9,c9,HS⟩:=Q0 hc;have e9:(lf++[(⟨3,J8 yt,yd⟩:Tk)]).length=nf+1:=(by rw [aA,hQ.o];rfl);rw [e9] at HS;subst HS;show wpAny _ _ _ _ _ _ (Act.put _ (some 139) (.slice A9 (nf+1) c9)) w9;refine zqG 15 9 (.slice A9 (nf+1) c9) rfl ?_;refine bW yZ ?_ _;simp only [q0,Act.put,zZ,zY,zX];have hV:=bE w3 (.cells (tkC ⟨3,J8 yt,yd⟩).toArray 31);have ii:yK (OwnE 31 tkC 3 w9 w.heap.size (.slice A9 (nf+1) c9) (lf++[⟨3,J8 yt,yd⟩])):=hc;have hS:yK (OwnE 31 tkC 3 w9 w.heap.size (.slice (some ⟨b,o,none⟩) op.length d2) op):=zW (Q7 hy.o fun k hk=>by
         have h1:=(hy.o.lt k hk).2;exact (hgr9.block k yV (fun e=>ho.o k e.symm hk)).trans (hV k h1))
        have hX:yK (Q3h (.slice A9 (nf+1) c9) (.slice (some ⟨b,o,none⟩) op.length d2)):=fun k hk e=>by
         rcases hat9 with h | h
         ·rw [show (Value.slice A9 (nf+1) c9).ownBlock=(Value.slice Af nf cf).ownBlock from h] at hk;exact ho.o k hk e
         ·rw [show (Value.slice A9 (nf+1) c9).ownBlock=some _ from h] at hk;injection hk with hk;have h1:=(hy.o.lt k e).2;simp at hk;omega
        have hE:=fun k (hk:(Value.slice Af nf cf).ownBlock=some k)=>(hd.o.lt k hk).1;have hv:yK (But g w w9):=⟨hgr9.os.trans hs.o.os,hgr9.tape.trans hs.o.tape,hgr9.output.trans hs.o.output,aP iw (aP yW hgr9.size),fun k hk hn=>((hgr9.block k yV (fun e=>by have:=hE k e.symm;omega)).trans (hV k yY)).trans (hs.o.block k hk hn)⟩;have ib:yK (Nums w9 g L N'):=zW (hP.o.keepg fun k hk=>(hgr9.block k (by have:=hP.o.lt;simp;omega) (fun e=>by have:=hE k e.symm;omega)).trans (hV k (by have:=hP.o.lt;omega)));have E9:=zW e9;clear hc hbel9 hgr9 hat9 hV hE e9;go_wp2_with fail
        go_roundg q
        case measure=>omega
        case rel=>exact ⟨q,lf++[Tk.mk 3 (J8 yt) yd],A9,c9,by rw [E9.o],rfl,yY,ia.o,by rw [E9.o];omega,by (show OwnE _ _ _ _ _ _ _);rw [E9.o];exact ii.o,hS.o,by rw [E9.o];exact hX.o,hv.o,ib.o,yQ⟩
       simp only [a0,Act.put,zZ,zY,zX];refine zqM 0 125 (.slice Af nf cf) rfl ?_;refine zqM 1 126 (.slice (some ⟨b,o,none⟩) op.length d2) rfl ?_;refine zqM 2 127 (.int .i64 (q:Int)) rfl ?_;refine zqI 3 128 (.pointer (some ⟨b,o+q * 3,none⟩)) rfl rfl (.slice (some ⟨b,o,none⟩) op.length d2) (.int .i64 (q:Int)) ?_;refine zqF 4 129 (.pointer (some ⟨b,o+q * 3+1,none⟩)) rfl rfl (.pointer (some ⟨b,o+q * 3,none⟩)) ?_;refine zqM 7 132 (.slice (some ⟨b,o,none⟩) op.length d2) rfl ?_;refine zqM 8 133 (.int .i64 (q:Int)) rfl ?_;refine zqI 9 134 (.pointer (some ⟨b,o+q * 3,none⟩)) rfl rfl (.slice (some ⟨b,o,none⟩) op.length d2) (.int .i64 (q:Int)) ?_;refine zqF 10 135 (.pointer (some ⟨b,o+q * 3+2,none⟩)) rfl rfl (.pointer (some ⟨b,o+q * 3,none⟩)) ?_;simp only [Act.put,zZ,zY,zX];refine zqt 5 11 rfl rfl ?_ ?_
       ·refine zqL (.string yt) rfl (.pointer (some ⟨b,o+q * 3+1,none⟩)) (E4 (w:=wr.drew) p2) ?_;simp only [Act.put,zZ,zY,zX];refine zqt 6 11 rfl rfl ?_ ?_
        ·refine J1 (X3r (.tmp 130) _ (.string yt) rfl yZ) (ht.o _) ?_;rintro e w5 ⟨rfl,rfl⟩;refine ⟨.string (J8 yt),rfl,?_⟩;simp only [Act.put,zZ,zY,zX];refine zqV 11 136 (.int .i64 yd) rfl rfl (.pointer (some ⟨b,o+q * 3+2,none⟩)) (Y4k (w:=wr.drew) p3) ?_;exact zqX T
        ·refine zqL (.int .i64 yd) rfl (.pointer (some ⟨b,o+q * 3+2,none⟩)) (Y4k (w:=wr.drew) p3) ?_;simp only [Act.put,zZ,zY,zX];refine zqo 6 rfl ?_;refine J1 (X3r (.tmp 130) _ (.string yt) rfl yZ) (ht.o _) ?_;rintro e w5 ⟨rfl,rfl⟩;refine ⟨.string (J8 yt),rfl,?_⟩;exact zqX T
       ·refine zqL (.int .i64 yd) rfl (.pointer (some ⟨b,o+q * 3+2,none⟩)) (Y4k (w:=wr.drew) p3) ?_;simp only [Act.put,zZ,zY,zX];refine zqV 5 130 (.string yt) rfl rfl (.pointer (some ⟨b,o+q * 3+1,none⟩)) (E4 (w:=wr.drew) p2) ?_;simp only [Act.put,zZ,zY,zX];refine zqo 6 rfl ?_;refine J1 (X3r (.tmp 130) _ (.string yt) rfl yZ) (ht.o _) ?_;rintro e w5 ⟨rfl,rfl⟩;refine ⟨.string (J8 yt),rfl,?_⟩;exact zqX T
  | succ i=>
    have iF:(0:Int) < ((i+1:Nat):Int):=yY;have hl:=Q4k L N' 3 yX;have hL:=zW (X4d L g N' 3 wr HN.o yY yX yX);have hr:=HG.o;rw [D7] at hr;have HR:O8 true L ⟨f,op,id,N'⟩=⟨Q4 (f++[(U5 true L (Q8 L (J3 L N' 3).2 8) (J3 L N' 3).1 op id ((J3 L N' 3).2+1)).1]),(U5 true L (Q8 L (J3 L N' 3).2 8) (J3 L N' 3).1 op id ((J3 L N' 3).2+1)).2.1,
     (U5 true L (Q8 L (J3 L N' 3).2 8) (J3 L N' 3).1 op id ((J3 L N' 3).2+1)).2.2.1,(U5 true L (Q8 L (J3 L N' 3).2 8) (J3 L N' 3).1 op id ((J3 L N' 3).2+1)).2.2.2⟩:=rfl
    obtain ⟨hf,hu⟩:=FGK.step true L _ r hj.o;rw [HR] at hr hf hu;generalize J3 L N' 3=ln at hl hL hr hf hu;obtain ⟨t,M⟩:=ln;simp only at hl hL hr hf hu;have c8:=X5 L M 8 yX;have Hf:=zW (fun w h=>Z2 L g M 8 w h yY yX yX);generalize Q8 L M 8=c at c8 Hf hr hf hu;have Hx:=zW hr;have hB:=zW hf;have hw:=zW hu;have hU:=zW hj.o.opsz;clear HR hf hr HG hj hu;go_wp2_with fail
    refine (hL.o).mono ?_;rintro e w2 ⟨rfl,hb2,hn2⟩;have Hi:=HB.o.trans hb2;have hI:=zW (Q7 HF.o (w':=w2) fun k hk=>by have:=HF.o.lt k hk;exact hb2.block k this.2 yY);have hR:=zW (Q7 HO.o (w':=w2) fun k hk=>by have:=HO.o.lt k hk;exact hb2.block k this.2 yY);have Hb:=zW hn2;have iD:=hn2.lt;have Hs:=zW Hi;have Hp:=Hi.size;clear hb2 hn2 Hi HF HO HN hL HB;go_upto_block 2 with (go_at_call 34;refine (Hf.o _ (by exact Hb.o.alloc _)).mono ?_;rintro e w3 ⟨rfl,hb3,hn3⟩)
    have hg:FR g w2.heap.size w (.slice A1 f.length d1) f L (.slice A2 op.length d2) op ⟨1,t,0⟩ (M+1) w3:=by
     have h0:FR g w2.heap.size w (.slice A1 f.length d1) f L (.slice A2 op.length d2) op ⟨1,t,0⟩ M (w2.alloc (.cells #[.int .i64 1,.string t,.int .i64 0] 31)):=by
      refine ⟨Q7 hI.o fun k hk=>bE _ _ _ (hI.o.lt k hk).2,Q7 hR.o fun k hk=>bE _ _ _ (hR.o.lt k hk).2,hH.o,fun k hk=>?_,fun k hk=>?_,aY,Hs.o.alloc _,Hb.o.alloc _,ip,Hp⟩
      ·have:=(hI.o.lt k hk).2;omega
      ·have:=(hR.o.lt k hk).2;omega
     exact h0.call hb3 hn3
    have Hj:=hn3.lt;clear hb3 hn3 Hf hI hR Hb Hs hH;go_cut [10,11] (fun ov dv wx=>∃ (x:Tk) (op':List Tk) (id' M':Nat),dv=.int .i64 id'∧yK (U5 true L c t op id (M+1)=(x,op',id',M'))∧FR g w2.heap.size w (.slice A1 f.length d1) f L ov op' x M' wx)
    case first=>
     rcases (show (c=0∨c=1)∨c=2∨(c=3∨c=4)∨(c=5∨c=6)∨c=7 from yY) with HD | rfl | HE | h56 | rfl
     ·have hz:=X5 L (M+1) 3 yX;have HI:yK (U5 true L c t op id (M+1)=(⟨5,Q0d.getD (Q8 L (M+1) 3).toNat ⟨#[]⟩,0⟩,op,id,M+1+1)):=by
       rcases HD with rfl | rfl<;>rfl
      rcases HD with rfl | rfl
      all_goals
       have hd:=zW (fun w h=>Z2 L g (M+1) 3 w h yY yX yX);generalize Q8 L (M+1) 3=z at hz HI hd;have HU:((z.toNat:Nat):Int)=z:=yY;go_wp2_with fail
       refine (hd.o _ (by exact hg.num.alloc (.cells (Q0d.map Value.string).toArray 9))).mono ?_;rintro e w5 ⟨rfl,hb5,hn5⟩;have q:=I8 (xs:=Q0d) z hz.1 hz.2 Hj (by exact hb5);have ha:=(hg.alloc (.cells (Q0d.map Value.string).toArray 9)).call hb5 hn5;have Hk:=hn5.lt;obtain ⟨p0,p1,p2,p3,p4,p5⟩:=T5 ha.box;generalize Q0d.getD z.toNat ⟨#[]⟩=word at q HI;clear hb5 hn5 hd;go_wp2_with fail
       go_meet
       exact ⟨⟨5,word,0⟩,op,id,M+1+1,by go_num,HI.o,ha.set3 ⟨5,word,0⟩⟩
     ·have hz:=X5 L (M+1) 2 yX;have HI:yK (U5 true L 2 t op id (M+1)=(⟨4,Q5i.getD (Q8 L (M+1) 2).toNat ⟨#[]⟩,(id+1:Nat)⟩,op,id+1,M+1+1)):=by
       show U5 true L 2 t op id (M+1)=_;rfl
      have hd:=zW (fun w h=>Z2 L g (M+1) 2 w h yY yX yX);generalize Q8 L (M+1) 2=z at hz HI hd;have HU:((z.toNat:Nat):Int)=z:=yY;go_wp2_with fail
      refine (hd.o _ (by exact hg.num.alloc (.cells (Q5i.map Value.string).toArray 9))).mono ?_;rintro e w5 ⟨rfl,hb5,hn5⟩;have q:=I8 (xs:=Q5i) z hz.1 hz.2 Hj (by exact hb5);have ha:=(hg.alloc (.cells (Q5i.map Value.string).toArray 9)).call hb5 hn5;have Hk:=hn5.lt;obtain ⟨p0,p1,p2,p3,p4,p5⟩:=T5 ha.box;generalize Q5i.getD z.toNat ⟨#[]⟩=word at q HI;clear hb5 hn5 hd;go_wp2_with fail
      go_meet
      exact ⟨⟨4,word,((id+1:Nat):Int)⟩,op,id+1,M+1+1,by go_num,HI.o,ha.set3 ⟨4,word,((id+1:Nat):Int)⟩⟩
     ·have hz:=X5 L (M+1) 3 yX;have HI:yK (U5 true L c t op id (M+1)=(⟨2,Q7g.getD (Q8 L (M+1) 3).toNat ⟨#[]⟩,(id+1:Nat)⟩,op++[⟨2,Q7g.getD (Q8 L (M+1) 3).toNat ⟨#[]⟩,(id+1:Nat)⟩],id+1,M+1+1)):=by
       rcases HE with rfl | rfl<;>rfl
      rcases HE with rfl | rfl
      all_goals
       have hd:=zW (fun w h=>Z2 L g (M+1) 3 w h yY yX yX);generalize Q8 L (M+1) 3=z at hz HI hd;have HU:((z.toNat:Nat):Int)=z:=yY;go_wp2_with fail
       refine (hd.o _ (by exact hg.num.alloc (.cells (Q7g.map Value.string).toArray 9))).mono ?_;rintro e w5 ⟨rfl,hb5,hn5⟩;have q:=I8 (xs:=Q7g) z hz.1 hz.2 Hj (by exact hb5);have ha:=(hg.alloc (.cells (Q7g.map Value.string).toArray 9)).call hb5 hn5;have Hk:=hn5.lt;obtain ⟨p0,p1,p2,p3,p4,p5⟩:=T5 ha.box;generalize Q7g.getD z.toNat ⟨#[]⟩=word at q HI;clear hb5 hn5 hd;have iP:=ha.but.size;go_wp2_with (at_builtin;go_must (refine X3d rfl (.tmp 63) (.tmp 65) 24 31 rfl underlying24 _ tkC 3 32 Z8 rfl yX Q5 D4 w.heap.size _ op rfl (by exact ((ha.set3 ⟨2,word,(id:Int)+1⟩).alloc _).ownO) _ [⟨2,word,(id:Int)+1⟩] rfl (by exact RdT.one_at _ _ (Y2w _ _ _) ⟨2,word,(id:Int)+1⟩ _) (by rw [bZ];omega) yX (by simp [World.setCell];omega) ?_);intro v6 w6 hh hD hF hC;obtain ⟨A6,d6,iu⟩:=Q0 hh;subst iu;have ic:=zW hh;have hK:=zW hF;have HV:=zW hC;clear hh hD hF hC)
       go_meet
       have e6:(op++[(⟨2,word,(id:Int)+1⟩:Tk)]).length=op.length+1:=yW;have Hu:=((ha.set3 ⟨2,word,(id:Int)+1⟩).alloc _).push ic.o hK.o HV.o;rw [e6] at Hu;exact ⟨⟨2,word,(id:Int)+1⟩,op++[⟨2,word,(id:Int)+1⟩],id+1,M+1+1,by go_num,(by exact HI.o),Hu⟩
     ·by_cases hop0:0 < op.length
      ·obtain ⟨k,HM⟩:∃ k:Nat,op.length=k+1:=⟨op.length - 1,yY⟩;have hk:k < op.length:=yY;have hK:yK (op.getLastD ⟨0,⟨#[]⟩,0⟩=op.getD k ⟨0,⟨#[]⟩,0⟩):=by
        show _=_;rw [fH,List.getLast?_eq_getElem?,bH,show op.length - 1=k by omega]
       have Hw:yK (op.dropLast=op.take k++op.drop (k+1)):=by
        show _=_;rw [dI yY,aX,List.dropLast_eq_take,show op.length - 1=k by omega]
       have HI:yK (U5 true L c t op id (M+1)=(⟨3,J8 (op.getD k ⟨0,⟨#[]⟩,0⟩).t,(op.getD k ⟨0,⟨#[]⟩,0⟩).d⟩,op.take k++op.drop (k+1),id,M+1)):=by
        show U5 true L c t op id (M+1)=_;unfold U5;rw [aE yY,aE yY,aE yY,aK ⟨yY,hop0⟩,hK.o,Hw.o]
       rcases h56 with rfl | rfl
       all_goals
        clear hK Hw;have hk':(k:Int) < (op.length:Int):=yY;obtain ⟨g2,c2,Hq,io⟩:=X8t hg.ownO hop0;injection Hq with Hh _ hd2;subst Hh hd2;have iq:(op.length:Int) - 1=(k:Int):=yY;have iG:(0:Int)≤(k:Int):=yY;have Hl:(0:Int)≤(op.length:Int) - 1:=yY;have Hm:(1:Int)≤(op.length:Int):=yY;have ha:=hg;have iy:=zW HM;clear HM;go_upto_region 27 with fail
        clear iq Hl Hm;have Hk:=hg.num.lt;obtain ⟨p0,p1,p2,p3,p4,p5⟩:=T5 ha.box;obtain ⟨b',o',Hg,ik,r1,r2,r3⟩:=RdT.at_ (OwnE.rd Q5 ha.ownO) k hk;injection Hg with Hg;injection Hg with e1 e2 _;subst e1 e2;rw [bI] at r1 r2 r3;have hW:=hU.o op[k] (aL hk);have Hv:yK (op.getD k ⟨0,⟨#[]⟩,0⟩=op[k]):=by
         show op.getD k ⟨0,⟨#[]⟩,0⟩=op[k];rw [bH,aF hk,Option.getD_some]
        rw [Hv.o] at HI;generalize op[k]=y at r1 r2 r3 hW HI;have ht:=fun w=>B8 y.t w yY;have hx:=zW ht;clear ht Hv;go_wp2_with fail
        go_region_with ((go_at_call 36;refine (hx.o _).mono ?_;rintro e w' ⟨rfl,rfl⟩))
        all_goals
         clear r1 r2 r3 p0 p1 p2 p3 p4 p5 hx;have hp:=(ha.set3 ⟨3,J8 y.t,y.d⟩).drew;have ewr:IntKind.i64.wrap ((k:Int)+1)=(k:Int)+1:=(by rw [cQ];omega);have iI:(0:Int)≤(k:Int)+1:=yY;have iJ:(k:Int)+1≤(op.length:Int):=yY;have iK:((k:Int)+1).toNat=k+1:=yY;have iB:=RdE.cap (OwnE.rd Q5 hp.ownO);have iH:k≤d2:=yY;have hi:=hp.drew;have Hn:=OwnE.rd Q5 hi.ownO;have S1:=zW (Hn.take k yY);obtain ⟨A,hA,Ho⟩:∃ A:Option Addr,(if d2=k+1 then some (⟨g2,0,none⟩:Addr) else some ⟨g2,(k+1) * 3,none⟩)=A∧yK (RdT ((((w3.setCell ⟨w2.heap.size,0,none⟩ (.int .i64 3)).setCell ⟨w2.heap.size,1,none⟩ (.string (J8 y.t))).setCell ⟨w2.heap.size,2,none⟩ (.int .i64 y.d)).drew.drew) (.slice A (op.length - (k+1)) (d2 - (k+1))) (op.drop (k+1))):=by
          refine ⟨_,rfl,show RdT _ _ _ from Hn.drop (k+1) yY _ (fun h=>?_) (fun h=>?_)⟩
          ·rw [aE yY,bI]
          ·split at h<;>cases h
         have iz:=hi.but.size;have HY:=zW hi;have t1:(op.take k).length=k:=(by rw [bG];omega);have t2:(op.drop (k+1)).length=op.length - (k+1):=bM;have T1:=zW t1;have T2:=zW t2;clear Hn ha hp hi hg t1 t2;go_wp2_with fail
         go_region_law (first
          | (refine H4 rfl (.const (.slice none 0 0)) (.tmp 95) 24 31 rfl underlying24 _ tkC 3 32 Z8 rfl yX Q5 D4 _ (.slice none 0 0) [] rfl (by exact OwnE.nil) (.slice (some ⟨g2, 0, none⟩) k d2) (op.take k) (by simp [Act.eval, Act.put]) (by exact S1.o) (by rw [T1.o]; simp; omega) yX yQ ?_
             intro v7 w7 hown7 hbel7 hgr7 _;rw [bJ] at hown7;have ie:=zW hown7;have hY:=zW (hbel7 _ _ yQ (aB _ _));have ix:=hY.o.size;clear hown7 hbel7 hgr7)
          | (refine H4 rfl (.tmp 96) (.tmp 100) 24 31 rfl underlying24 _ tkC 3 32 Z8 rfl yX Q5 D4 _ v7 (op.take k) (by simp [Act.eval]) (by exact ie.o) (.slice A (op.length - (k + 1)) (d2 - (k + 1))) (op.drop (k + 1)) (by simp [Act.eval]) (by exact RdE.below Ho.o hY.o yQ) (by rw [T1.o, T2.o]; omega) yX ix ?_
             intro v8 w8 hown8 hbel8 hgr8 _;have ig:=zW hown8;have HW:=zW (hbel8 _ _ yQ hY.o);clear hown8 hbel8 hgr8))
         go_wp2_with fail
         go_meet
         exact ⟨⟨3,J8 y.t,y.d⟩,op.take k++op.drop (k+1),id,M+1,rfl,HI.o,HY.o.fresh HW.o ig.o⟩
      ·obtain rfl:op=[]:=cC yY;have HI:yK (U5 true L c t [] id (M+1)=(⟨1,t,0⟩,[],id,M+1)):=by
        show U5 true L c t [] id (M+1)=_;unfold U5;rw [aE yY,aE yY,aE yY,aE (fun h=>by simp at h)]
       rcases h56 with rfl | rfl
       all_goals
        go_wp2_with fail
        go_meet
        exact ⟨⟨1,t,0⟩,[],id,M+1,rfl,HI.o,hg⟩
     ·have HI:yK (U5 true L 7 t op id (M+1)=(⟨1,t,0⟩,op,id,M+1)):=by
       show U5 true L 7 t op id (M+1)=_;unfold U5;rw [aE yX,aE yX,aE yX,aE (fun h=>by have h2:=h.1;revert h2;decide)]
      go_wp2_with fail
      go_meet
      exact ⟨⟨1,t,0⟩,op,id,M+1,rfl,HI.o,hg⟩
    case rest=>
     obtain ⟨x,op',id',M',rfl,HC,HX⟩:=hcut;have hG:=Hx.o;have hO:=hB.o;have HH:=hw.o;rw [HC.o] at hG hO HH;simp only at hG hO HH;have HZ:=zW hG;have ih:=zW hO;have iM:x.t.size≤18:=(X7v true L c t op id (M+1) r hl.1 HP hU.o HL (fun h=>by cases h) x op' id' M' HC.o).1;obtain ⟨p0,p1,p2,_⟩:=T5 HX.box;clear hG hO Hx hB hw;go_wp2_with fail
     refine (Q1o f [x] _ _ _ (by exact (OwnE.rd Q5 HX.own).alloc _) (by exact RdT.one_at _ _ rfl x _) (by rw [bZ];omega) (by rw [F6];omega)).mono ?_;rintro e w9 ⟨v9,rfl,hc,HJ⟩;have hS:=zW hc;have hv:=zW (((aB wc.heap.size wc).alloc yQ _).trans (HJ.mono yW));clear hc HJ;go_wp2_with fail
     have iR:=HX.but.size;have iQ:(wc.alloc (.cells (tkC x).toArray 31)).heap.size=wc.heap.size+1:=yW;go_roundg i
     case measure=>omega
     case rel=>exact ⟨⟨Q4 (f++[x]),op',id',M'⟩,i,r+1,rfl,by go_num,yY,by show M'≤_;omega,ih.o,Y3 hS.o (by show w.heap.size≤(wc.alloc (.cells (tkC x).toArray 31)).heap.size;omega),Q7 HX.ownO (fun k hk=>hv.o.block k (HX.ownO.lt k hk).2),(fun k hk e=>by have h1:(wc.alloc (.cells (tkC x).toArray 31)).heap.size≤k:=(hS.o.lt k hk).1;have h2:=(HX.ownO.lt k e).2;omega),HX.but.trans (But.of_below hv.o),HX.num.keepg fun k hk=>hv.o.block k yY,HZ.o,yQ⟩
/-! ### Elements -/
theorem X1b (fmt:Int) (r:List UInt8) (o:Option Tk) (h:ElOk fmt r o):∀ x,o=some x→One x∧P2 x∧(fmt≠1→V8 x):=by
 intro x hx;cases h with
 | slot _ n hn=>
   injection hx with hx;subst hx;exact ⟨fun hk=>by simp at hk,.inr (.inl ⟨rfl,by simpa [ofL] using hn,rfl⟩),fun _=>.inr ⟨rfl,by simpa [ofL] using hn,rfl⟩⟩
 | opn t d ht hb=>
   injection hx with hx;subst hx;exact ⟨fun hk=>by simp at hk,.inr (.inr (.inl ⟨.inl rfl,by simpa [ofL] using ht,by simpa [ofL] using hb⟩)),fun h=>absurd rfl h⟩
 | cls t d ht hb=>
   injection hx with hx;subst hx;exact ⟨fun hk=>by simp at hk,.inr (.inr (.inr ⟨rfl,by simpa [ofL] using ht,by simpa [ofL] using hb⟩)),fun h=>absurd rfl h⟩
 | emp t d ht hb=>
   injection hx with hx;subst hx;exact ⟨fun hk=>by simp at hk,.inr (.inr (.inl ⟨.inr rfl,by simpa [ofL] using ht,by simpa [ofL] using hb⟩)),fun h=>absurd rfl h⟩
 | cont b hb=>cases hx
 | _=>
   injection hx with hx;subst hx;exact ⟨fun _=>⟨_,rfl⟩,.inl rfl,fun _=>.inl rfl⟩
theorem V2d (fmt:Int) (hf:fmt=1∨fmt=2∨fmt=3) (r:List UInt8) (x:Tk) (h:ElOk fmt r (some x)):ElOk fmt (V6 fmt x) (some x):=by
 obtain ⟨h1,h2,h3⟩:=X1b fmt r _ h x rfl;exact Z1g fmt hf x h1 h2 h3
theorem U1m (fmt:Int) (hf:fmt=1∨fmt=2∨fmt=3) (ts:Els) (h:∀ e∈ts,ElOk fmt e.1 e.2):∀ x∈X0 ts,ElOk fmt (V6 fmt x) (some x):=by
 intro x hx;obtain ⟨e,he,hx⟩:=List.mem_filterMap.1 hx;have:=h e he;rw [hx] at this;exact V2d fmt hf _ x this
/-! ### Tags -/
def V0p (x:Tk):Bool:=decide (N7 x)
def tgs (u:List Tk):List Tk:=u.filter V0p
theorem Q8y (a b:List Tk):tgs (a++b)=tgs a++tgs b:=List.filter_append a b
theorem X2y (x:Tk) (u:List Tk) (h:N7 x):tgs (x::u)=x::tgs u:=List.filter_cons_of_pos (by simpa [V0p] using h)
theorem Q3w (x:Tk) (u:List Tk) (h:¬ N7 x):tgs (x::u)=tgs u:=List.filter_cons_of_neg (by simpa [V0p] using h)
theorem U0d (l:List UInt8):tgs (l.map chI)=[]:=by
 induction l with
 | nil=>rfl
 | cons c l ih=>rw [cA,Q3w _ _ (fun h=>by unfold N7 chI at h;simp at h),ih]
theorem X2x:∀ f:List Tk,tgs (X9 f)=tgs f
 | []=>rfl
 | x::f=>by
   rw [Q0h,Q8y,X2x f];unfold P8;split
   ·rename_i hk;rw [Q3w x f (fun h=>by unfold N7 at h;omega),U0d];rfl
   ·rw [←Q8y];rfl
theorem R4:∀ (u:List Tk) (c:Nat) (op:List Tk),NumOk (tgs u) c op↔NumOk u c op
 | [],c,op=>Iff.rfl
 | x::u,c,op=>by
   by_cases h:N7 x
   ·rw [X2y x u h,NumOk,NumOk];split
    ·rw [R4 u]
    ·split
     ·rw [R4 u]
     ·split
      ·constructor
       ·rintro ⟨y,op',h1,h2,h3,h4⟩;exact ⟨y,op',h1,h2,h3,(R4 u _ _).1 h4⟩
       ·rintro ⟨y,op',h1,h2,h3,h4⟩;exact ⟨y,op',h1,h2,h3,(R4 u _ _).2 h4⟩
      ·exact R4 u _ _
   ·rw [Q3w x u h,R4 u];unfold N7 at h;conv=>rhs;rw [NumOk,aE (fun e=>h (.inl e)),aE (fun e=>h (.inr (.inr e))),aE (fun e=>h (.inr (.inl e)))]
theorem Z5i (u:List Tk):(tgs u).Pairwise Y3h↔u.Pairwise Y3h:=by
 unfold tgs;rw [List.pairwise_filter];constructor
 ·intro h;refine h.imp fun {a b} h ha hb=>?_;exact h (by simpa [V0p] using ha) (by simpa [V0p] using hb) ha hb
 ·intro h;exact h.imp fun {a b} h _ _=>h
theorem Q4m:∀ (u:List Tk) (c:Nat) (op:List Tk),NumOk u c op→(∀ y∈op,y.k=2∧y.d≤(c:Int))→op.Pairwise (fun a b=>a.d≠b.d)→
 u.Pairwise Y3h∧∀ x∈u,N7 x→(c:Int) < x.d∨(x.k=3∧∃ y∈op,y.d=x.d∧J8 y.t=x.t)
 | [],c,op,_,_,_=>⟨List.Pairwise.nil,fun x hx=>by simp at hx⟩
 | x::u,c,op,h,ho,hp=>by
   unfold NumOk at h;split at h
   ·rename_i h2;obtain ⟨hd,h⟩:=h;obtain ⟨g1,g2⟩:=Q4m u (c+1) (x::op) h (fun y hy=>by
     rcases aU.1 hy with rfl | hy
     ·exact ⟨h2,yY⟩
     ·have:=ho y hy;exact ⟨this.1,yY⟩) (dP.2 ⟨fun y hy=>by have:=(ho y hy).2;omega,hp⟩)
    refine ⟨dP.2 ⟨fun z hz _ ha he=>?_,g1⟩,fun z hz ha=>?_⟩
    ·rcases g2 z hz ha with hh | ⟨h3,y,hy,hyd,hyn⟩
     ·omega
     ·rcases aU.1 hy with rfl | hy
      ·exact ⟨h3,h2,hyn⟩
      ·have:=(ho y hy).2;omega
    ·rcases aU.1 hz with rfl | hz
     ·left;omega
     ·rcases g2 z hz ha with hh | ⟨h3,y,hy,hyd,hyn⟩
      ·left;omega
      ·rcases aU.1 hy with rfl | hy
       ·left;omega
       ·exact .inr ⟨h3,y,hy,hyd,hyn⟩
   ·rename_i h2;split at h
    ·rename_i h4;obtain ⟨hd,h⟩:=h;obtain ⟨g1,g2⟩:=Q4m u (c+1) op h (fun y hy=>⟨(ho y hy).1,by have:=(ho y hy).2;omega⟩) hp;refine ⟨dP.2 ⟨fun z hz _ ha he=>?_,g1⟩,fun z hz ha=>?_⟩
     ·rcases g2 z hz ha with hh | ⟨h3,y,hy,hyd,hyn⟩
      ·omega
      ·have:=(ho y hy).2;omega
     ·rcases aU.1 hz with rfl | hz
      ·left;omega
      ·rcases g2 z hz ha with hh | hh
       ·left;omega
       ·exact .inr hh
    ·rename_i h4;split at h
     ·rename_i h3;obtain ⟨y,op',rfl,hn,hd,h⟩:=h;obtain ⟨p1,p2⟩:=dP.1 hp;obtain ⟨g1,g2⟩:=Q4m u c op' h (fun z hz=>ho z (by simp [hz])) p2;refine ⟨dP.2 ⟨fun z hz _ ha he=>?_,g1⟩,fun z hz ha=>?_⟩
      ·rcases g2 z hz ha with hh | ⟨_,y',hy',hyd,_⟩
       ·have:=(ho y yW).2;omega
       ·exact absurd yY (p1 y' hy')
      ·rcases aU.1 hz with rfl | hz
       ·exact .inr ⟨h3,y,by simp,hd.symm,hn⟩
       ·rcases g2 z hz ha with hh | ⟨h3',y',hy',hyd,hyn⟩
        ·exact .inl hh
        ·exact .inr ⟨h3',y',by simp [hy'],hyd,hyn⟩
     ·rename_i h3;have hb:¬ N7 x:=fun ht=>by rcases ht with a | a | a<;>contradiction
      obtain ⟨g1,g2⟩:=Q4m u c op h ho hp;refine ⟨dP.2 ⟨fun z hz ht=>absurd ht hb,g1⟩,fun z hz ha=>?_⟩;rcases aU.1 hz with rfl | hz
      ·exact absurd ha hb
      ·exact g2 z hz ha
/-! ### Order of elements -/
def X3e (a:Els):Prop:=a=[]∨∃ p r y,a=p++[((r:List UInt8),some (y:Tk))]
theorem V2g (a b:Els) (ha:X3e a) (hb:X3e b):X3e (a++b):=by
 rcases hb with rfl | ⟨p,r,y,rfl⟩
 ·rwa [aX]
 ·exact .inr ⟨a++p,r,y,by rw [aZ]⟩
theorem Y1o (a b:Els) (ha:X3e a) (h1:F5 a) (h2:F5 b):F5 (a++b):=by
 rcases ha with rfl | ⟨p,r,y,rfl⟩
 ·exact h2
 ·exact Q8d p b r y h1 h2
theorem Q8c:∀ (a b:Els),F5 (a++b)→F5 b
 | [],_,h=>h
 | [_],[],_=>trivial
 | [(_,_)],(_,_)::_,h=>h.2
 | (_,_)::(r,y)::a,b,h=>Q8c ((r,y)::a) b h.2
theorem X7f:∀ (a b:Els),F5 (a++b)→F5 a
 | [],_,_=>trivial
 | [_],_,_=>trivial
 | (_,_)::(r,y)::a,b,h=>⟨h.1,X7f ((r,y)::a) b h.2⟩
theorem X4r:∀ (ts:Els) (p:Nat),p≤(X0 ts).length→X3e (Z5 ts p)
 | ts,0,_=>by
   left;cases ts<;>rfl
 | [],p+1,h=>by simp [X0] at h
 | (r,none)::ts,p+1,h=>by
   rw [Z5];rcases X4r ts (p+1) h with e | ⟨q,r',y,e⟩
   ·exfalso;have:=Q8k ts (p+1);rw [e] at this;have hl:=congrArg List.length this;rw [bG] at hl;have h':p+1≤(X0 ts).length:=h;simp [X0] at hl h';omega
   ·rw [e];exact .inr ⟨(r,none)::q,r',y,rfl⟩
 | (r,some x)::ts,p+1,h=>by
   rw [Z5];rcases X4r ts p (by simpa [X0] using h) with e | ⟨q,r',y,e⟩
   ·rw [e];exact .inr ⟨[],r,x,rfl⟩
   ·rw [e];exact .inr ⟨(r,some x)::q,r',y,rfl⟩
theorem V0k (t:Els) (h:∀ e∈t,e.2≠none):X3e t:=by
 rcases bS t with rfl | ⟨p,⟨r,o⟩,rfl⟩
 ·exact .inl rfl
 ·rw [bN] at h ⊢;cases o with
  | none=>exact absurd rfl (h (r,none) yW)
  | some y=>exact .inr ⟨p,r,y,rfl⟩
def AllT (P:Nat×Nat→List Tk→Prop):List (Nat×Nat)→List (List Tk)→Prop
 | [],[]=>True
 | r::rl,t::tg=>P r t∧AllT P rl tg
 | _,_=>False
theorem AllT.len {P:Nat×Nat→List Tk→Prop}:∀ {rl:List (Nat×Nat)} {tg:List (List Tk)},AllT P rl tg→rl.length=tg.length
 | [],[],_=>rfl
 | _::_,_::_,h=>by rw [aG,aG,AllT.len h.2]
theorem AllT.mem {P:Nat×Nat→List Tk→Prop}:∀ {rl:List (Nat×Nat)} {tg:List (List Tk)},AllT P rl tg→∀ t∈tg,∃ r∈rl,P r t
 | [],[],_,t,ht=>by simp at ht
 | r::rl,t'::tg,h,t,ht=>by
   rcases aU.1 ht with rfl | ht
   ·exact ⟨r,by simp,h.1⟩
   ·obtain ⟨r',hr,hp⟩:=AllT.mem h.2 t ht;exact ⟨r',by simp [hr],hp⟩
theorem AllT.imp {P Q:Nat×Nat→List Tk→Prop} (f:∀ r t,P r t→Q r t):∀ {rl:List (Nat×Nat)} {tg:List (List Tk)},AllT P rl tg→AllT Q rl tg
 | [],[],_=>trivial
 | _::_,_::_,h=>⟨f _ _ h.1,AllT.imp f h.2⟩
def Q9c:Nat→List (Nat×Nat)→Nat→Prop
 | _,[],_=>True
 | at_,r::rl,n=>at_≤r.1∧r.1≤r.2∧r.2≤n∧Q9c r.2 rl n
theorem Y4f (ts:Els) (a:Nat):(X0 (U7 ts a)).length=(X0 ts).length - a:=by rw [Q2c,bM]
theorem Q7v (ts:Els) (a:Nat) (r:Nat×Nat) (rl:List (Nat×Nat)) (t:Els) (tg:List Els):G6 ts a (r::rl) (t::tg)=Z5 (U7 ts a) (r.1 - a)++t++G6 ts r.2 rl tg:=rfl
theorem Q7u (ts:Els) (a:Nat) (tg:List Els):G6 ts a [] tg=U7 ts a:=by cases tg<;>rfl
theorem Y6s (ts:Els) (h:F5 ts):∀ (rl:List (Nat×Nat)) (tg:List Els) (a:Nat),Q9c a rl (X0 ts).length→(∀ t∈tg,∀ e∈t,e.2≠none)→F5 (G6 ts a rl tg)
 | [],tg,a,_,_=>by
   rw [Q7u];rw [←O4 ts a] at h;exact Q8c _ _ h
 | _::_,[],a,_,_=>by
   show F5 (U7 ts a);rw [←O4 ts a] at h;exact Q8c _ _ h
 | r::rl,t::tg,a,ha,ht=>by
   rw [Q7v];obtain ⟨h1,h2,h3,h4⟩:=ha;have hd:F5 (U7 ts a):=by
    rw [←O4 ts a] at h;exact Q8c _ _ h
   have hk:F5 (Z5 (U7 ts a) (r.1 - a)):=by
    rw [←O4 (U7 ts a) (r.1 - a)] at hd;exact X7f _ _ hd
   have he:=X4r (U7 ts a) (r.1 - a) (by rw [Y4f];omega);have hb:=ht t yW;exact Y1o _ _ (V2g _ _ he (V0k t hb)) (Y1o _ _ he hk (Q2a t hb)) (Y6s ts h rl tg r.2 h4 fun t' hc=>ht t' (by simp [hc]))
theorem Z0i (ts:Els):∀ (rl:List (Nat×Nat)) (tg:List Els) (a:Nat),∀ e∈G6 ts a rl tg,e∈ts∨∃ t∈tg,e∈t
 | [],tg,a,e,he=>by
   rw [Q7u] at he;left;rw [←O4 ts a];exact aS.2 (.inr he)
 | _::_,[],a,e,he=>by
   have he:e∈U7 ts a:=he;left;rw [←O4 ts a];exact aS.2 (.inr he)
 | r::rl,t::tg,a,e,he=>by
   rw [Q7v] at he;rcases aS.1 he with he | he
   ·rcases aS.1 he with he | he
    ·left;rw [←O4 ts a,←O4 (U7 ts a) (r.1 - a)];exact aS.2 (.inr (aS.2 (.inl he)))
    ·exact .inr ⟨t,by simp,he⟩
   ·rcases Z0i ts rl tg r.2 e he with h | ⟨t',h1,h2⟩
    ·exact .inl h
    ·exact .inr ⟨t',by simp [h1],h2⟩
theorem Q9s {α:Type} (u:List α) (a b c:Nat) (h1:a≤b) (h2:b≤c):u.drop a=(u.take b).drop a++((u.take c).drop b++u.drop c):=by
 have e:∀ (x y:Nat),x≤y→u.drop x=(u.take y).drop x++u.drop y:=fun x y h=>by
  rw [eT];conv=>lhs;rw [←bR (y - x) (u.drop x)]
  rw [fC,show x+(y - x)=y by omega]
 rw [e a b h1,e b c h2]
theorem X9l (u:List Tk) (a:Nat) (r:Nat×Nat) (rl:List (Nat×Nat)) (t:List Tk) (tg:List (List Tk)):Q3c u a (r::rl) (t::tg)=(u.take r.1).drop a++X9 t++Q3c u r.2 rl tg:=rfl
theorem X9k (u:List Tk) (a:Nat) (tg:List (List Tk)):Q3c u a [] tg=u.drop a:=by cases tg<;>rfl
theorem Z7a (u:List Tk) (n:Nat):∀ (rl:List (Nat×Nat)) (tg:List (List Tk)) (a:Nat),Q9c a rl n→AllT (fun r t=>tgs t=tgs ((u.take r.2).drop r.1)) rl tg→tgs (Q3c u a rl tg)=tgs (u.drop a)
 | [],tg,a,_,_=>by rw [X9k]
 | _::_,[],a,_,h=>by cases h
 | r::rl,t::tg,a,⟨h1,h2,h3,h4⟩,⟨g1,g2⟩=>by
   rw [X9l,Q8y,Q8y,X2x,Z7a u n rl tg r.2 h4 g2,Q9s u a r.1 r.2 h1 h2,Q8y,Q8y];have g1':tgs t=tgs ((u.take r.2).drop r.1):=g1;rw [g1',aZ]
theorem Y2q (u:List Tk) (n:Nat):∀ (rl:List (Nat×Nat)) (tg:List (List Tk)) (a:Nat),Q9c a rl n→AllT (fun r t=>X9 t=(u.take r.2).drop r.1) rl tg→Q3c u a rl tg=u.drop a
 | [],tg,a,_,_=>by rw [X9k]
 | _::_,[],a,_,h=>by cases h
 | r::rl,t::tg,a,⟨h1,h2,h3,h4⟩,⟨g1,g2⟩=>by
   have g1':X9 t=(u.take r.2).drop r.1:=g1;rw [X9l,Y2q u n rl tg r.2 h4 g2,Q9s u a r.1 r.2 h1 h2,g1',aZ]
/-! ### Targets -/
structure TgtOk (fmt:Int) (u t:List Tk):Prop where
 nrm:Normal t
 els:∀ x∈t,x.k≠1→ElOk fmt (V6 fmt x) (some x)
 tags:tgs t=tgs u
theorem TgtOk.exp {fmt:Int} {u t:List Tk} (hf:fmt=1∨fmt=2∨fmt=3) (h:TgtOk fmt u t):∀ y∈X9 t,ElOk fmt (V6 fmt y) (some y):=by
 intro y hy;obtain ⟨x,hx,ha⟩:=dA.1 hy;unfold P8 at ha;split at ha
 ·obtain ⟨c,_,rfl⟩:=cF.1 ha;rw [X5z];exact U0r fmt hf c
 ·rename_i hk;rw [aJ.1 ha];exact h.els x hx hk
theorem V9i (fmt:Int) (hf:fmt=1∨fmt=2∨fmt=3) (ts:Els) (h:RawOk fmt ts) (rl:List (Nat×Nat)) (tg:List (List Tk)) (ha:Q9c 0 rl (X0 ts).length)
 (ht:AllT (fun r t=>TgtOk fmt (((X0 ts).take r.2).drop r.1) t) rl tg) (hn:(Q3c (X0 ts) 0 rl tg).length≤500):RawOk fmt (G6 ts 0 rl (tg.map (tsF fmt))) where
 els:=fun e he=>by
  rcases Z0i ts rl _ 0 e he with he | ⟨t,hb,he⟩
  ·exact h.els e he
  ·obtain ⟨t0,hc,rfl⟩:=cF.1 hb;obtain ⟨r,_,hr⟩:=AllT.mem ht t0 hc;obtain ⟨y,hy,rfl⟩:=cF.1 he;exact TgtOk.exp hf hr y hy
 cont:=Y6s ts h.cont rl _ 0 ha fun t hb e he=>by
  obtain ⟨t0,_,rfl⟩:=cF.1 hb;obtain ⟨y,_,rfl⟩:=cF.1 he;exact fun hh=>by cases hh
 num:=by
  rw [Q8j,←R4,Z7a (X0 ts) _ rl tg 0 ha (AllT.imp (fun r t h=>h.tags) ht),cO,R4];exact h.num
 len:=by rw [Q8j];exact hn
theorem Y5l (fmt:Int) (u0:List Tk) (hn0:NumOk u0 0 []) (hl0:u0.length≤500) (p q:Nat) (t:List Tk) (h:TgtOk fmt ((u0.take q).drop p) t) (hl:X3 t≤500):ValF t:=by
 have h1:=Q7d t (R3 t h.nrm);obtain ⟨f1,_⟩:=Q4m u0 0 [] hn0 (fun y hy=>by simp at hy) List.Pairwise.nil;obtain ⟨_,f2,_⟩:=R1 u0 0 [] hn0 (fun y hy=>by simp at hy);have f3:=(Q1k u0 0 []).2;refine ⟨yY,yY,h.nrm,fun x hx=>?_,?_⟩
 ·by_cases hk:x.k=1
  ·exact .inl hk
  ·obtain ⟨_,g2,_⟩:=X1b fmt _ _ (h.els x hx hk) x rfl;have hd:N7 x→1≤x.d∧x.d≤999:=fun ha=>by
    have hm:x∈tgs t:=List.mem_filter.2 ⟨hx,by simpa [V0p] using ha⟩;rw [h.tags] at hm;have hb:=(List.mem_filter.1 hm).1;have:=f2 x (bY (dW hb)) ha;omega
   rcases g2 with g | g | ⟨g1,g2,_⟩ | ⟨g1,g2,_⟩
   ·exact absurd g hk
   ·exact .inr (.inl g)
   ·exact .inr (.inr (.inl ⟨g1,g2,hd (by rcases g1 with g1 | g1;exact .inl g1;exact .inr (.inr g1))⟩))
   ·exact .inr (.inr (.inr ⟨g1,g2,hd (.inr (.inl g1))⟩))
 ·rw [←Z5i,h.tags,Z5i];refine List.Pairwise.sublist ?_ f1;exact (List.drop_sublist _ _).trans (List.take_sublist _ _)
theorem X5p (u t:List Tk) (h:TgtOk 1 u t):Q5e t:=fun x hx ht=>by
 have hk:x.k≠1:=(by unfold N7 at ht;omega);obtain ⟨_,g2,_⟩:=X1b 1 _ _ (h.els x hx hk) x rfl;unfold N7 at ht;rcases g2 with g | g | ⟨_,_,g⟩ | ⟨_,g1,g⟩
 ·omega
 ·omega
 ·exact g
 ·rw [X4q _ g1];exact g
theorem Y3a (fmt:Int) (hf:fmt≠1) (u t:List Tk) (h:TgtOk fmt u t):∀ x∈t,V8 x:=fun x hx=>by
 by_cases hk:x.k=1
 ·exact .inl hk
 ·exact (X1b fmt _ _ (h.els x hx hk) x rfl).2.2 hf
theorem X9y (fmt:Int) (hf:fmt=1∨fmt=2∨fmt=3) (ts:Els) (h:RawOk fmt ts) (hone:X9 (X0 ts)=X0 ts) (p q:Nat):TgtOk fmt (((X0 ts).take q).drop p) (slI (Q4 (X0 ts)) 0 p q)∧X9 (slI (Q4 (X0 ts)) 0 p q)=((X0 ts).take q).drop p:=by
 have e:X9 (slI (Q4 (X0 ts)) 0 p q)=((X0 ts).take q).drop p:=by
  rw [X1k,L1,hone,dH,dH]
 refine ⟨⟨X0i _ _ _ _ (N1 _),fun x hx hk=>?_,?_⟩,e⟩
 ·have hm:x∈X9 (slI (Q4 (X0 ts)) 0 p q):=dA.2 ⟨x,hx,by unfold P8;rw [aE hk];simp⟩;rw [e] at hm;exact U1m fmt hf ts h.els x (bY (dW hm))
 ·rw [←X2x,e]
def P5 (fmt:Int) (L:List Int) (x:Tk) (N:Nat):List UInt8×Nat:=
 if fmt=1∧x.k=1∧x.t.data.toList=[62] then ([38,103,116,59],N)
 else if fmt=1∧x.k=1∧x.t.data.toList=[125] then ([38,114,98,59],N)
 else if fmt=2∧x.k=1∧x.t.data.toList=[32] then ([92,115],N)
 else if fmt=2 then (92::10::Y0k.getD (Q8 L N 3).toNat []++V6 fmt x,N+1)
 else (V6 fmt x,N)
theorem X1a (fmt:Int) (L:List Int) (x:Tk) (N:Nat) (h:Q8 L N 3=0):Q2 (elS fmt L x N).1=(P5 fmt L x (N+1)).1∧(elS fmt L x N).2=(P5 fmt L x (N+1)).2:=by
 unfold elS P5;rw [aK h];split
 ·exact ⟨by simp [Q2],rfl⟩
 ·split
  ·exact ⟨by simp [Q2],rfl⟩
  ·split
   ·exact ⟨by simp [Q2],rfl⟩
   ·split
    ·exact ⟨by simp [Q2],rfl⟩
    ·exact ⟨by simp [Q2],rfl⟩
theorem X3n (fmt:Int) (L:List Int) (x:Tk) (N:Nat) (h:Q8 L N 3≠0):Q2 (elS fmt L x N).1=V6 fmt x∧(elS fmt L x N).2=N+1:=by
 unfold elS;rw [aE h];exact ⟨by simp [Q2],rfl⟩
theorem Z3h (s:fY) (w:World) (h0:0 < s.size) (h:s.data.toList.head? ≠some 32):Calls prog 198 #[.string s] w fun e w'=>e=.returned (.string s)∧w=w':=by
 have ha:(s.toList != [])=true:=by
  rw [dZ,Y7];intro e;rw [aC,e] at h0;simp at h0
 have hb:¬ s.toList=[]:=(by simpa using ha);have hd:((s[0].toNat:Int)==32)=false:=by
  refine Y2 s[0] 32 fun e=>h ?_;have hl:0 < s.data.toList.length:=(by rw [←aC];exact h0);rw [List.head?_eq_getElem?,aF hl];have:s.data.toList[0]=s[0]:=rfl;rw [this,e]
 have hc:(0:Int) < (s.size:Int):=yY;clear h;go_enter func198,ntmps198
 go_wp2_with fail
 first | go_ret | skip
 exact ⟨rfl,rfl⟩
theorem Z1k {o:Oper} {a:Act} {w:World} (ho:o.op=.buildSlice 79 3 #[(0,.const (.string ⟨#[]⟩)),(1,.const (.string ⟨#[32]⟩)),(2,.const (.string ⟨#[9,32]⟩))]):(execOp a.eval o).run prog w=.ok (.value (.slice (some ⟨w.heap.size,0,none⟩) 3 3)) (w.alloc (.cells #[.string ⟨#[]⟩,.string ⟨#[32]⟩,.string ⟨#[9,32]⟩] 9)):=by
 have h0:a.eval (.const (.string ⟨#[]⟩))=.string ⟨#[]⟩:=rfl;have h1:a.eval (.const (.string ⟨#[32]⟩))=.string ⟨#[32]⟩:=rfl;have h2:a.eval (.const (.string ⟨#[9,32]⟩))=.string ⟨#[9,32]⟩:=rfl;generalize a.eval=ρ at h0 h1 h2 ⊢;unfold execOp;simp only [ho];go_simp
def X5v (g:Nat) (L:List Int) (r:List UInt8×Nat) (w:World) (e:Ending) (w':World):Prop:=e=.returned (.string (ofL r.1))∧But g w w'∧Nums w' g L r.2
theorem Z8r (L:List Int) (g N:Nat) (t s:fY) (d:Int) (h1:(t.toList==[62])=true) (w:World) (h:Nums w g L N):
 Calls prog 172 #[.pointer (some ⟨g,0,none⟩),.int .i64 1,.agg #[.int .i64 1,.string t,.int .i64 d],.string s] w (fun e w'=>e=.returned (.string ⟨#[38,103,116,59]⟩)∧But g w w'∧Nums w' g L N):=by
 have HB:=zW ((But.refl g w).alloc (.cells #[.int .i64 1,.string t,.int .i64 d] 31));have HN:=zW (h.alloc (.cells #[.int .i64 1,.string t,.int .i64 d] 31));clear h;go_enter func172,ntmps172
 go_wp2_with fail
 first | go_ret | skip
 exact ⟨rfl,HB.o,HN.o⟩
theorem Z8s (L:List Int) (g N:Nat) (t s:fY) (d:Int) (h1:(t.toList==[62])=false) (h2:(t.toList==[125])=true) (w:World) (h:Nums w g L N):
 Calls prog 172 #[.pointer (some ⟨g,0,none⟩),.int .i64 1,.agg #[.int .i64 1,.string t,.int .i64 d],.string s] w (fun e w'=>e=.returned (.string ⟨#[38,114,98,59]⟩)∧But g w w'∧Nums w' g L N):=by
 have HB:=zW ((But.refl g w).alloc (.cells #[.int .i64 1,.string t,.int .i64 d] 31));have HN:=zW (h.alloc (.cells #[.int .i64 1,.string t,.int .i64 d] 31));clear h;go_enter func172,ntmps172
 go_wp2_with fail
 first | go_ret | skip
 exact ⟨rfl,HB.o,HN.o⟩
theorem Y8b (L:List Int) (g N:Nat) (k d:Int) (t s:fY) (h1:(t.toList==[62])=false) (h2:(t.toList==[125])=false) (w:World) (h:Nums w g L N):
 Calls prog 172 #[.pointer (some ⟨g,0,none⟩),.int .i64 1,.agg #[.int .i64 k,.string t,.int .i64 d],.string s] w (fun e w'=>e=.returned (.string s)∧But g w w'∧Nums w' g L N):=by
 have HB:=zW ((But.refl g w).alloc (.cells #[.int .i64 k,.string t,.int .i64 d] 31));have HN:=zW (h.alloc (.cells #[.int .i64 k,.string t,.int .i64 d] 31));clear h;go_enter func172,ntmps172
 go_wp2_with fail
 first | go_ret | skip
 exact ⟨rfl,HB.o,HN.o⟩
theorem Z8t (L:List Int) (g N:Nat) (t s:fY) (d:Int) (h1:(t.toList==[32])=true) (w:World) (h:Nums w g L N):
 Calls prog 172 #[.pointer (some ⟨g,0,none⟩),.int .i64 2,.agg #[.int .i64 1,.string t,.int .i64 d],.string s] w (fun e w'=>e=.returned (.string ⟨#[92,115]⟩)∧But g w w'∧Nums w' g L N):=by
 have HB:=zW ((But.refl g w).alloc (.cells #[.int .i64 1,.string t,.int .i64 d] 31));have HN:=zW (h.alloc (.cells #[.int .i64 1,.string t,.int .i64 d] 31));clear h;go_enter func172,ntmps172
 go_wp2_with fail
 first | go_ret | skip
 exact ⟨rfl,HB.o,HN.o⟩
theorem Y8d (L:List Int) (g N:Nat) (k d:Int) (t s:fY) (w:World) (h:Nums w g L N):
 Calls prog 172 #[.pointer (some ⟨g,0,none⟩),.int .i64 3,.agg #[.int .i64 k,.string t,.int .i64 d],.string s] w (fun e w'=>e=.returned (.string s)∧But g w w'∧Nums w' g L N):=by
 have HB:=zW ((But.refl g w).alloc (.cells #[.int .i64 k,.string t,.int .i64 d] 31));have HN:=zW (h.alloc (.cells #[.int .i64 k,.string t,.int .i64 d] 31));clear h;go_enter func172,ntmps172
 go_wp2_with fail
 first | go_ret | skip
 exact ⟨rfl,HB.o,HN.o⟩
theorem Y8c (L:List Int) (g N:Nat) (k d:Int) (t s:fY) (w:World) (h:Nums w g L N) (h1:(t.toList==[32])=false) (hs0:0 < s.size) (hsh:s.data.toList.head? ≠some 32) (hss:s.size≤1000000) (hN:N≤1000000):
 Calls prog 172 #[.pointer (some ⟨g,0,none⟩),.int .i64 2,.agg #[.int .i64 k,.string t,.int .i64 d],.string s] w (X5v g L (92::10::Y0k.getD (Q8 L N 3).toNat []++s.data.toList,N+1) w):=by
 have HB:=zW ((But.refl g w).alloc (.cells #[.int .i64 k,.string t,.int .i64 d] 31));have HN:=zW (h.alloc (.cells #[.int .i64 k,.string t,.int .i64 d] 31));have hz:=X5 L N 3 yX;have CN:=zW (fun w h=>Z2 L g N 3 w h yY yX yX);have CS:=zW (fun w=>Z3h s w hs0 hsh);obtain ⟨b,hb⟩:∃ b,yK (ofL (Y0k.getD (Q8 L N 3).toNat [])=b):=⟨_,rfl⟩;have ht:b.size≤2:=by
  rw [←hb.o,Q6];rcases (show Q8 L N 3=0∨Q8 L N 3=1∨Q8 L N 3=2 by omega) with e | e | e<;>rw [e]<;>decide
 have HE:yK ((⟨#[92,10]⟩:fY)++b++s=ofL (92::10::Y0k.getD (Q8 L N 3).toNat []++s.data.toList)):=by
  show _=_;rw [←hb.o];apply cB;apply bX.1;simp [ofL]
 have hi:yK (∀ z,z=Q8 L N 3→([⟨#[]⟩,⟨#[32]⟩,⟨#[9,32]⟩]:List fY).getD z.toNat ⟨#[]⟩=b):=fun z hp=>by
  rw [hp,←hb.o];rcases (show Q8 L N 3=0∨Q8 L N 3=1∨Q8 L N 3=2 by omega) with e | e | e<;>rw [e]<;>rfl
 obtain ⟨z,hg⟩:∃ z:Nat,Q8 L N 3=(z:Int):=⟨(Q8 L N 3).toNat,yY⟩;have he:yK ((([⟨#[]⟩,⟨#[32]⟩,⟨#[9,32]⟩]:List fY).getD z ⟨#[]⟩)=b):=by
  have:=hi.o _ rfl;rw [hg,cH] at this;exact this
 rw [hg] at CN hz;have hl:z < 3:=yY;have hf:(z:Int) < 3:=yY;have hs:(0:Int)≤(z:Int):=yY;have ho:=HN.o.lt;clear h hs0 hsh hb hi hz hg;go_enter func172,ntmps172
 go_upto_region 8 with fail
 generalize w.alloc (.cells #[.int .i64 k,.string t,.int .i64 d] 31)=w0 at *;refine zqR (l0:=#[false,false,false,false,false,false,false,false,false,false]) 10 rfl ?_;refine zqM 1 52 (.pointer (some ⟨g,0,none⟩)) rfl ?_;refine zqM 6 57 (.string s) rfl ?_;simp only [Act.put,zZ,zY,zX];refine zqt 0 2 rfl rfl ?_ ?_
 ·refine X1 (v:=.slice (some ⟨w0.drew.heap.size,0,none⟩) 3 3) (w2:=w0.drew.alloc (.cells #[.string ⟨#[]⟩,.string ⟨#[32]⟩,.string ⟨#[9,32]⟩] 9)) (Z1k rfl) ?_;have hm:yK (But g w (w0.drew.alloc (.cells #[.string ⟨#[]⟩,.string ⟨#[32]⟩,.string ⟨#[9,32]⟩] 9))):=(HB.o.drewN 1).alloc (.cells #[.string ⟨#[]⟩,.string ⟨#[32]⟩,.string ⟨#[9,32]⟩] 9);have hn:yK (Nums (w0.drew.alloc (.cells #[.string ⟨#[]⟩,.string ⟨#[32]⟩,.string ⟨#[9,32]⟩] 9)) g L N):=HN.o.alloc (.cells #[.string ⟨#[]⟩,.string ⟨#[32]⟩,.string ⟨#[9,32]⟩] 9);have hj:yK (∀ W,But g (w0.drew.alloc (.cells #[.string ⟨#[]⟩,.string ⟨#[32]⟩,.string ⟨#[9,32]⟩] 9)) W→W.cell? ⟨w0.drew.heap.size,z,none⟩=some (.string b)):=fun W hW=>by
   have:=I8 (w:=w0.drew) (xs:=[⟨#[]⟩,⟨#[32]⟩,⟨#[9,32]⟩]) (t:=9) (z:Int) yY (by simpa using hf) ho (by exact hW);rw [cH,he.o] at this;exact this
  obtain ⟨ga,hd⟩:∃ ga,yK (ga=w0.drew.heap.size):=⟨_,rfl⟩;rw [←hd.o] at hj ⊢;generalize w0.drew.alloc (.cells #[.string ⟨#[]⟩,.string ⟨#[32]⟩,.string ⟨#[9,32]⟩] 9)=wA at *;simp only [Act.put,zZ,zY,zX];refine zqo 2 rfl ?_;refine Q0s (.pointer (some ⟨g,0,none⟩)) (.int .i64 3) rfl func34 (CN.o _ (by exact hn.o)) ?_;rintro e w5 ⟨rfl,hb5,hn5⟩;have ha:=zW (hm.o.trans hb5);have hc:=zW hn5;have hq:=hj.o _ hb5;clear hb5 hn5;refine ⟨.int .i64 z,rfl,?_⟩;refine zqI 3 54 (.pointer (some ⟨ga,z,none⟩)) rfl rfl (.slice (some ⟨ga,0,none⟩) 3 3) (.int .i64 (z:Int)) ?_;simp only [Act.put,zZ,zY,zX];refine zqt 4 7 rfl rfl ?_ ?_
  ·refine zqL (.string b) rfl (.pointer (some ⟨ga,z,none⟩)) (E4 hq) ?_;refine zqB 5 56 (.string ((⟨#[92,10]⟩:fY)++b)) rfl rfl (.string (⟨#[92,10]⟩:fY)) (.string b) ?_ (hr:=fun _=>by go_simp;omega);simp only [Act.put,zZ,zY,zX];refine zqo 7 rfl ?_;refine Q1r (.string s) rfl func198 (CS.o _) ?_;rintro e w6 ⟨rfl,rfl⟩;refine ⟨.string s,rfl,?_⟩;refine zqB 8 59 (.string ((⟨#[92,10]⟩:fY)++b++s)) rfl rfl (.string ((⟨#[92,10]⟩:fY)++b)) (.string s) ?_ (hr:=fun _=>by go_simp;omega);refine zqG 9 8 (.string ((⟨#[92,10]⟩:fY)++b++s)) rfl ?_;simp only [Act.put,zZ,zY,zX];refine bW yZ ?_ _;go_wp2_with fail
   first | go_ret | skip
   refine ⟨?_,ha.o,hc.o⟩;show Ending.returned (.string ((⟨#[92,10]⟩:fY)++b++s))=_;rw [HE.o];rfl
  ·refine Q1r (.string s) rfl func198 (CS.o _) ?_;rintro e w6 ⟨rfl,rfl⟩;refine ⟨.string s,rfl,?_⟩;simp only [Act.put,zZ,zY,zX];refine zqo 4 rfl ?_;refine zqL (.string b) rfl (.pointer (some ⟨ga,z,none⟩)) (E4 hq) ?_;refine zqB 5 56 (.string ((⟨#[92,10]⟩:fY)++b)) rfl rfl (.string (⟨#[92,10]⟩:fY)) (.string b) ?_ (hr:=fun _=>by go_simp;omega);refine zqB 8 59 (.string ((⟨#[92,10]⟩:fY)++b++s)) rfl rfl (.string ((⟨#[92,10]⟩:fY)++b)) (.string s) ?_ (hr:=fun _=>by go_simp;omega);refine zqG 9 8 (.string ((⟨#[92,10]⟩:fY)++b++s)) rfl ?_;simp only [Act.put,zZ,zY,zX];refine bW yZ ?_ _;go_wp2_with fail
   first | go_ret | skip
   refine ⟨?_,ha.o,hc.o⟩;show Ending.returned (.string ((⟨#[92,10]⟩:fY)++b++s))=_;rw [HE.o];rfl
 ·refine Q0s (.pointer (some ⟨g,0,none⟩)) (.int .i64 3) rfl func34 (CN.o _ (by exact HN.o)) ?_;rintro e w5 ⟨rfl,hb5,hn5⟩;have hh:=zW ((HB.o.drewN 1).trans hb5);have hk:=zW hn5;clear hb5 hn5;refine ⟨.int .i64 z,rfl,?_⟩;simp only [Act.put,zZ,zY,zX];refine zqt 0 7 rfl rfl ?_ ?_
  ·refine X1 (v:=.slice (some ⟨w5.heap.size,0,none⟩) 3 3) (w2:=w5.alloc (.cells #[.string ⟨#[]⟩,.string ⟨#[32]⟩,.string ⟨#[9,32]⟩] 9)) (Z1k rfl) ?_;have ha:=zW (hh.o.alloc (.cells #[.string ⟨#[]⟩,.string ⟨#[32]⟩,.string ⟨#[9,32]⟩] 9));have hc:=zW (hk.o.alloc (.cells #[.string ⟨#[]⟩,.string ⟨#[32]⟩,.string ⟨#[9,32]⟩] 9));have hq:(w5.alloc (.cells #[.string ⟨#[]⟩,.string ⟨#[32]⟩,.string ⟨#[9,32]⟩] 9)).cell? ⟨w5.heap.size,z,none⟩=some (.string b):=by
    have:=Q2r w5 w5.heap.size rfl [⟨#[]⟩,⟨#[32]⟩,⟨#[9,32]⟩] 9 z (by simpa using hl);rw [he.o] at this;exact this
   obtain ⟨ga,hd⟩:∃ ga,yK (ga=w5.heap.size):=⟨_,rfl⟩;rw [←hd.o] at hq ⊢;generalize w5.alloc (.cells #[.string ⟨#[]⟩,.string ⟨#[32]⟩,.string ⟨#[9,32]⟩] 9)=wA at *;refine zqI 3 54 (.pointer (some ⟨ga,z,none⟩)) rfl rfl (.slice (some ⟨ga,0,none⟩) 3 3) (.int .i64 (z:Int)) ?_;simp only [Act.put,zZ,zY,zX];refine zqt 4 7 rfl rfl ?_ ?_
   ·refine zqL (.string b) rfl (.pointer (some ⟨ga,z,none⟩)) (E4 hq) ?_;refine zqB 5 56 (.string ((⟨#[92,10]⟩:fY)++b)) rfl rfl (.string (⟨#[92,10]⟩:fY)) (.string b) ?_ (hr:=fun _=>by go_simp;omega);simp only [Act.put,zZ,zY,zX];refine zqo 7 rfl ?_;refine Q1r (.string s) rfl func198 (CS.o _) ?_;rintro e w6 ⟨rfl,rfl⟩;refine ⟨.string s,rfl,?_⟩;refine zqB 8 59 (.string ((⟨#[92,10]⟩:fY)++b++s)) rfl rfl (.string ((⟨#[92,10]⟩:fY)++b)) (.string s) ?_ (hr:=fun _=>by go_simp;omega);refine zqG 9 8 (.string ((⟨#[92,10]⟩:fY)++b++s)) rfl ?_;simp only [Act.put,zZ,zY,zX];refine bW yZ ?_ _;go_wp2_with fail
    first | go_ret | skip
    refine ⟨?_,ha.o,hc.o⟩;show Ending.returned (.string ((⟨#[92,10]⟩:fY)++b++s))=_;rw [HE.o];rfl
   ·refine Q1r (.string s) rfl func198 (CS.o _) ?_;rintro e w6 ⟨rfl,rfl⟩;refine ⟨.string s,rfl,?_⟩;simp only [Act.put,zZ,zY,zX];refine zqo 4 rfl ?_;refine zqL (.string b) rfl (.pointer (some ⟨ga,z,none⟩)) (E4 hq) ?_;refine zqB 5 56 (.string ((⟨#[92,10]⟩:fY)++b)) rfl rfl (.string (⟨#[92,10]⟩:fY)) (.string b) ?_ (hr:=fun _=>by go_simp;omega);refine zqB 8 59 (.string ((⟨#[92,10]⟩:fY)++b++s)) rfl rfl (.string ((⟨#[92,10]⟩:fY)++b)) (.string s) ?_ (hr:=fun _=>by go_simp;omega);refine zqG 9 8 (.string ((⟨#[92,10]⟩:fY)++b++s)) rfl ?_;simp only [Act.put,zZ,zY,zX];refine bW yZ ?_ _;go_wp2_with fail
    first | go_ret | skip
    refine ⟨?_,ha.o,hc.o⟩;show Ending.returned (.string ((⟨#[92,10]⟩:fY)++b++s))=_;rw [HE.o];rfl
  ·refine Q1r (.string s) rfl func198 (CS.o _) ?_;rintro e w6 ⟨rfl,rfl⟩;refine ⟨.string s,rfl,?_⟩;simp only [Act.put,zZ,zY,zX];refine zqo 0 rfl ?_;refine X1 (v:=.slice (some ⟨w5.heap.size,0,none⟩) 3 3) (w2:=w5.alloc (.cells #[.string ⟨#[]⟩,.string ⟨#[32]⟩,.string ⟨#[9,32]⟩] 9)) (Z1k rfl) ?_;have ha:=zW (hh.o.alloc (.cells #[.string ⟨#[]⟩,.string ⟨#[32]⟩,.string ⟨#[9,32]⟩] 9));have hc:=zW (hk.o.alloc (.cells #[.string ⟨#[]⟩,.string ⟨#[32]⟩,.string ⟨#[9,32]⟩] 9));have hq:(w5.alloc (.cells #[.string ⟨#[]⟩,.string ⟨#[32]⟩,.string ⟨#[9,32]⟩] 9)).cell? ⟨w5.heap.size,z,none⟩=some (.string b):=by
    have:=Q2r w5 w5.heap.size rfl [⟨#[]⟩,⟨#[32]⟩,⟨#[9,32]⟩] 9 z (by simpa using hl);rw [he.o] at this;exact this
   obtain ⟨ga,hd⟩:∃ ga,yK (ga=w5.heap.size):=⟨_,rfl⟩;rw [←hd.o] at hq ⊢;generalize w5.alloc (.cells #[.string ⟨#[]⟩,.string ⟨#[32]⟩,.string ⟨#[9,32]⟩] 9)=wA at *;refine zqI 3 54 (.pointer (some ⟨ga,z,none⟩)) rfl rfl (.slice (some ⟨ga,0,none⟩) 3 3) (.int .i64 (z:Int)) ?_;simp only [Act.put,zZ,zY,zX];refine zqo 4 rfl ?_;refine zqL (.string b) rfl (.pointer (some ⟨ga,z,none⟩)) (E4 hq) ?_;refine zqB 5 56 (.string ((⟨#[92,10]⟩:fY)++b)) rfl rfl (.string (⟨#[92,10]⟩:fY)) (.string b) ?_ (hr:=fun _=>by go_simp;omega);refine zqB 8 59 (.string ((⟨#[92,10]⟩:fY)++b++s)) rfl rfl (.string ((⟨#[92,10]⟩:fY)++b)) (.string s) ?_ (hr:=fun _=>by go_simp;omega);refine zqG 9 8 (.string ((⟨#[92,10]⟩:fY)++b++s)) rfl ?_;simp only [Act.put,zZ,zY,zX];refine bW yZ ?_ _;go_wp2_with fail
   first | go_ret | skip
   refine ⟨?_,ha.o,hc.o⟩;show Ending.returned (.string ((⟨#[92,10]⟩:fY)++b++s))=_;rw [HE.o];rfl
theorem V8c (l:List UInt8) (h:U3 l=true∨N9 l=true):∃ c r,l=c::r∧S6 c=true:=by
 rcases h with h | h
 ·obtain ⟨c,r,e,h1,_⟩:=L3 l h;exact ⟨c,r,e,h1⟩
 ·exact G3 l h
theorem X8q (t:fY) (h:U3 t.data.toList=true∨N9 t.data.toList=true) (c:UInt8) (hc:S6 c=false):(t.toList==[c])=false:=by
 obtain ⟨d,r,e,hd⟩:=V8c _ h;rw [Y7,e,aI];intro e2;injection e2 with e2 _;rw [e2,hc] at hd;cases hd
theorem Z1y (fmt:Int) (hf:D1 fmt) (L:List Int) (g N:Nat) (x:Tk) (w:World) (h:Nums w g L N) (ho:One x) (hi:P2 x) (hp:fmt≠1→V8 x) (hx:x.t.size≤1000) (hN:N≤1000000):
 Calls prog 172 #[.pointer (some ⟨g,0,none⟩),.int .i64 fmt,.agg #[.int .i64 x.k,.string x.t,.int .i64 x.d],.string (ofL (V6 fmt x))] w (X5v g L (P5 fmt L x N) w):=by
 have he:P2 x→x.k≠1→U3 x.t.data.toList=true∨N9 x.t.data.toList=true:=fun hi hk=>by
  rcases hi with h | ⟨_,h,_⟩ | ⟨_,h,_⟩ | ⟨_,h,_⟩
  ·exact absurd h hk
  ·exact .inl h
  ·exact .inr h
  ·exact .inl h
 have ha:(ofL (V6 fmt x)).size≤1000000:=by
  rw [Q6];have:=Q2s fmt x;omega
 have hc:=Z1g fmt hf x ho hi hp;have hb:0 < (ofL (V6 fmt x)).size:=(by rw [Q6];exact X7j _ _ _ hc);by_cases hk:x.k=1
 ·obtain ⟨c,rfl⟩:=ho hk;have hl:(chI c).t.toList=[c]:=(by rw [Y7];rfl);have hd:(chI c).t.data.toList=[c]:=rfl;have eq:∀ d:UInt8,c=d→((chI c).t.toList==[d])=true:=fun d e=>by rw [hl,e];simp
  have ne:∀ d:UInt8,c≠d→((chI c).t.toList==[d])=false:=fun d e=>by rw [hl,aI];intro e2;injection e2 with e2 _;exact e e2
  rcases hf with rfl | rfl | rfl
  ·by_cases h62:c=62
   ·have e:P5 1 L (chI c) N=([38,103,116,59],N):=(by unfold P5;rw [aK ⟨rfl,hk,by rw [hd,h62]⟩]);rw [e];exact Z8r L g N _ _ _ (eq 62 h62) w h
   ·by_cases h125:c=125
    ·have e:P5 1 L (chI c) N=([38,114,98,59],N):=(by unfold P5;rw [aE (fun hh=>h62 (by have:=hh.2.2;rw [hd] at this;simpa using this)),aK ⟨rfl,hk,by rw [hd,h125]⟩]);rw [e];exact Z8s L g N _ _ _ (ne 62 h62) (eq 125 h125) w h
    ·have e : P5 1 L (chI c) N = (V6 1 (chI c), N) := by
          unfold P5;rw [aE (fun hh=>h62 (by have:=hh.2.2;rw [hd] at this;simpa using this)),aE (fun hh=>h125 (by have:=hh.2.2;rw [hd] at this;simpa using this)),aE (fun hh=>absurd hh.1 yX),aE yX]
     rw [e];exact Y8b L g N _ _ _ _ (ne 62 h62) (ne 125 h125) w h
  ·by_cases h32:c=32
   ·have e:P5 2 L (chI c) N=([92,115],N):=(by unfold P5;rw [aE (fun hh=>absurd hh.1 yX),aE (fun hh=>absurd hh.1 yX),aK ⟨rfl,hk,by rw [hd,h32]⟩]);rw [e];exact Z8t L g N _ _ _ (eq 32 h32) w h
   ·have e:P5 2 L (chI c) N=(92::10::Y0k.getD (Q8 L N 3).toNat []++V6 2 (chI c),N+1):=(by unfold P5;rw [aE (fun hh=>absurd hh.1 yX),aE (fun hh=>absurd hh.1 yX),aE (fun hh=>h32 (by have:=hh.2.2;rw [hd] at this;simpa using this)),aK rfl]);rw [e];have:=Y8c L g N (chI c).k (chI c).d (chI c).t (ofL (V6 2 (chI c))) w h (ne 32 h32) hb (by
     have:=(X3o (chI c) ho (hp yX) (fun hh=>h32 (by have:=hh.2;rw [hd] at this;simpa using this))).1;simpa [ofL] using this) ha hN
    rwa [show (ofL (V6 2 (chI c))).data.toList=V6 2 (chI c) by simp [ofL]] at this
  ·have e:P5 3 L (chI c) N=(V6 3 (chI c),N):=(by unfold P5;rw [aE (fun hh=>absurd hh.1 yX),aE (fun hh=>absurd hh.1 yX),aE (fun hh=>absurd hh.1 yX),aE yX]);rw [e];exact Y8d L g N _ _ _ _ w h
 ·have hn:=he hi hk;have n62:=X8q x.t hn 62 yX;have n125:=X8q x.t hn 125 yX;have n32:=X8q x.t hn 32 yX;rcases hf with rfl | rfl | rfl
  ·have e:P5 1 L x N=(V6 1 x,N):=by
    unfold P5;rw [aE (fun hh=>hk hh.2.1),aE (fun hh=>hk hh.2.1),aE (fun hh=>hk hh.2.1),aE yX]
   rw [e];exact Y8b L g N _ _ _ _ n62 n125 w h
  ·have e:P5 2 L x N=(92::10::Y0k.getD (Q8 L N 3).toNat []++V6 2 x,N+1):=by
    unfold P5;rw [aE (fun hh=>hk hh.2.1),aE (fun hh=>hk hh.2.1),aE (fun hh=>hk hh.2.1),aK rfl]
   rw [e];have:=Y8c L g N x.k x.d x.t (ofL (V6 2 x)) w h n32 hb (by
    have:=(X3o x ho (hp yX) (fun hh=>hk hh.1)).1;simpa [ofL] using this) ha hN
   rwa [show (ofL (V6 2 x)).data.toList=V6 2 x by simp [ofL]] at this
  ·have e:P5 3 L x N=(V6 3 x,N):=by
    unfold P5;rw [aE (fun hh=>hk hh.2.1),aE (fun hh=>hk hh.2.1),aE (fun hh=>hk hh.2.1),aE yX]
   rw [e];exact Y8d L g N _ _ _ _ w h
theorem Y2m (fmt:Int) (L:List Int):∀ (u v:List Tk) (N:Nat),V1 fmt L (u++v) N=((V1 fmt L u N).1++(V1 fmt L v (V1 fmt L u N).2).1,(V1 fmt L v (V1 fmt L u N).2).2)
 | [],v,N=>by simp [V1]
 | x::u,v,N=>by
   rw [aR,V1,V1,Y2m fmt L u v];simp
theorem Z2q (fmt:Int) (L:List Int) (u:List Tk) (N i:Nat) (h:i < u.length):Q2 (V1 fmt L (u.take (i+1)) N).1=Q2 (V1 fmt L (u.take i) N).1++Q2 (elS fmt L u[i] (V1 fmt L (u.take i) N).2).1∧(V1 fmt L (u.take (i+1)) N).2=(elS fmt L u[i] (V1 fmt L (u.take i) N).2).2:=by
 rw [aH h,Y2m,F9];simp [V1,Q2]
theorem Y8l (y:Tk) (h:One y):Q4 [y]=[y]:=by
 by_cases hk:y.k=1
 ·obtain ⟨c,rfl⟩:=h hk;exact U2 (chI c) rfl (by show (1:Nat)≠0;decide)
 ·exact D9 [] y hk
theorem V9x (f:List Tk) (hn:Normal f) (i:Nat) (h:i < (X9 f).length):slI f 0 i (i+1)=[(X9 f)[i]]:=by
 have e:X9 (slI f 0 i (i+1))=[(X9 f)[i]]:=by
  rw [X1k,dH,dH,eT,aQ h,show i+1 - i=1 by omega];rfl
 have h1:=X5h _ (X0i i (i+1) f 0 hn);rw [e,Y8l _ (C8 f _ (aL h))] at h1;exact h1.symm
structure FOkW (fmt:Int) (f:List Tk):Prop where
 nrm:Normal f
 it:∀ x∈f,P2 x
 pl:fmt≠1→∀ x∈f,V8 x
 num:NumOk f 0 []
 len:f.length≤16
 li:X3 f≤160
theorem Y3z (f:List Tk) (y:Tk) (h:y∈X9 f):(∃ c,y=chI c)∨(y∈f∧y.k≠1):=by
 obtain ⟨x,hx,ha⟩:=dA.1 h;unfold P8 at ha;split at ha
 ·obtain ⟨c,_,rfl⟩:=cF.1 ha;exact .inl ⟨c,rfl⟩
 ·rename_i hk;rw [aJ.1 ha];exact .inr ⟨hx,hk⟩
theorem FOkW.one {fmt:Int} {f:List Tk} (h:FOkW fmt f) (y:Tk) (hy:y∈X9 f):P2 y∧(fmt≠1→V8 y)∧ValF [y]∧(fmt=1→Q5e [y])∧(fmt≠1→∀ x∈[y],V8 x)∧y.t.size≤64:=by
 have ha:=C8 f y hy;rcases Y3z f y hy with ⟨c,rfl⟩ | ⟨hm,hk⟩
 ·refine ⟨.inl rfl,fun _=>.inl rfl,⟨(by show 1≤512;decide),?_,⟨fun _=>⟨by show (1:Nat)≠0;decide,rfl,fun z hz=>by simp at hz⟩,trivial⟩,fun x hx=>?_,List.pairwise_singleton _ _⟩,fun _ x hx ht=>?_,fun _ x hx=>?_,by show (1:Nat)≤64;decide⟩
  ·exact aP (S8 [chI c] (fun x hx=>by rw [aJ.1 hx];exact ha)) (by show 1≤1024;decide)
  ·rw [aJ.1 hx];exact .inl rfl
  ·rw [aJ.1 hx] at ht;exfalso;unfold N7 chI at ht;simp at ht
  ·rw [aJ.1 hx];exact .inl rfl
 ·have hi:=h.it y hm;have he:y.t.size≤64:=by
   rcases hi with h | ⟨_,h,_⟩ | ⟨_,h,_⟩ | ⟨_,h,_⟩
   ·exact absurd h hk
   ·obtain ⟨c,r,e,_,hl,_⟩:=L3 _ h;rw [aC,e,aG];omega
   ·have:=(J0 _ h).1;rw [aC];exact this
   ·obtain ⟨c,r,e,_,hl,_⟩:=L3 _ h;rw [aC,e,aG];omega
  obtain ⟨_,f2,_⟩:=R1 f 0 [] h.num (fun y hy=>by simp at hy);have f3:=(Q1k f 0 []).2;have hc:=h.len;have hd:N7 y→1≤y.d∧y.d≤999:=fun ht=>by have:=f2 y hm ht;omega
  refine ⟨hi,fun hf=>h.pl hf y hm,⟨(by show 1≤512;decide),?_,⟨fun hb=>absurd hb hk,trivial⟩,fun x hx=>?_,List.pairwise_singleton _ _⟩,fun _ x hx ht=>?_,fun hf x hx=>?_,he⟩
  ·exact aP (S8 [y] (fun x hx=>by rw [aJ.1 hx];exact ha)) (by show 1≤1024;decide)
  ·rw [aJ.1 hx];rcases hi with g | g | ⟨g1,g2,_⟩ | ⟨g1,g2,_⟩
   ·exact absurd g hk
   ·exact .inr (.inl g)
   ·exact .inr (.inr (.inl ⟨g1,g2,hd (by rcases g1 with g1 | g1;exact .inl g1;exact .inr (.inr g1))⟩))
   ·exact .inr (.inr (.inr ⟨g1,g2,hd (.inr (.inl g1))⟩))
  ·rw [aJ.1 hx] at ht ⊢;unfold N7 at ht;rcases hi with g | g | ⟨_,_,g⟩ | ⟨_,g1,g⟩
   ·omega
   ·omega
   ·exact g
   ·rw [X4q _ g1];exact g
  ·rw [aJ.1 hx];exact h.pl hf y hm
theorem Q0w (fmt:Int) (L:List Int):∀ (u:List Tk) (N:Nat),(∀ x∈u,x.t.size≤64)→(Q2 (V1 fmt L u N).1).length≤340 * u.length
 | [],_,_=>by simp [V1,Q2]
 | x::u,N,h=>by
   have ih:=Q0w fmt L u (elS fmt L x N).2 fun y hy=>h y (by simp [hy]);have hx:=h x yW;have he:=Q2s fmt x;have h1:(Q2 (elS fmt L x N).1).length≤335:=by
    by_cases h0:Q8 L N 3=0
    ·rw [(X1a fmt L x N h0).1];unfold P5;have hb:(Y0k.getD (Q8 L (N+1) 3).toNat []).length≤2:=by
      have:=X5 L (N+1) 3 yX;rcases (show Q8 L (N+1) 3=0∨Q8 L (N+1) 3=1∨Q8 L (N+1) 3=2 by omega) with e | e | e<;>rw [e]<;>decide
     split
     ·show (4:Nat)≤335;decide
     ·split
      ·show (4:Nat)≤335;decide
      ·split
       ·show (2:Nat)≤335;decide
       ·split
        ·simp only [aA,aG];omega
        ·show (V6 fmt x).length≤335;omega
    ·rw [(X3n fmt L x N h0).1];omega
   rw [V1,F9,aA,aG];omega
theorem X9h (fmt:Int) (hf:D1 fmt) (L:List Int) (g N:Nat) (f:List Tk) (A:Option Addr) (c:Nat) (w:World) (h:Nums w g L N) (hrd:∀ W,But g w W→RdT W (.slice A f.length c) f) (hF:FOkW fmt f) (hN:N≤100000):
 Calls prog 133 #[.pointer (some ⟨g,0,none⟩),.int .i64 fmt,.slice A f.length c] w (X5v g L (Q2 (V1 fmt L (X9 f) N).1,(V1 fmt L (X9 f) N).2) w):=by
 obtain ⟨R,hB⟩:∃ R,yK (R=X5v g L (Q2 (V1 fmt L (X9 f) N).1,(V1 fmt L (X9 f) N).2) w):=⟨_,rfl⟩;rw [←hB.o];have Hd:=hF.len;have hU:=hF.li;have hE:=D2 f;have Ha:=zW hrd;have CL:=zW (fun W hW=>Q7s f (.slice A f.length c) W (hrd W hW) yY yY);have CSL:=zW (fun (i:Nat) (hi:i < (X9 f).length) W hW=>by
  have:=Z3a f (.slice A f.length c) i (i+1) W (hrd W hW) yY yY yY yY;rw [V9x f hF.nrm i hi] at this;exact this)
 have hP:=zW (fun y hy=>hF.one y hy);have hO:=zW (fun y hy=>C8 f y hy);have hR:yK (∀ x∈X9 f,x.t.size≤64):=fun y hy=>(hF.one y hy).2.2.2.2.2;have hK:=zW h;have ht:=zW hf;generalize X9 f=u at *;rw [←hE] at CL;have Hi:u.length≤160:=yY;clear hE h hrd hF hf hU;go_enter func133,ntmps133
 go_wp2_with fail
 go_loopg [7,8] u.length (fun gk sv iv wr=>∃ i:Nat,iv=.int .i64 i∧sv=.string (ofL (Q2 (V1 fmt L (u.take i) N).1))∧i≤u.length∧yK (But g w wr)∧yK (Nums wr g L (V1 fmt L (u.take i) N).2)∧u.length - i≤gk)
 case atStart=>exact ⟨0,rfl,rfl,aO _,But.refl g w,hK.o,yQ⟩
 case round=>
  obtain ⟨i,rfl,rfl,hi,HB,HN,hgk⟩:=hrel;have CLr:=zW (CL.o _ HB.o);by_cases hlt:i < u.length
  ·have Hf:(i:Int) < (u.length:Int):=yY;have hc:=aL hlt;obtain ⟨o1,o2,o3,o4,o5,o6⟩:=hP.o _ hc;have hh:=hO.o _ hc;have CS:=zW (CSL.o i hlt _ HB.o);obtain ⟨e1,e2⟩:=Z2q fmt L u N i hlt;have hX:=Q0w fmt L (u.take i) N (fun x hx=>hR.o x (bY hx));have hT:=Y4x fmt L (u.take i) N;have Hh:(u.take i).length≤160:=aP (eQ i u) yY;have hC:(ofL (Q2 (V1 fmt L (u.take i) N).1)).size≤60000:=(by rw [Q6];omega);have hZ:u[i].t.size≤64:=o6;have Hc:(ofL (V6 fmt u[i])).size≤1000:=(by rw [Q6];have:=Q2s fmt u[i];omega);have CE:=zW (fun (v:Value) (W:World) (hv:RdT W v [u[i]])=>Y9d fmt ht.o [u[i]] v W hv o3 o4 o5);rw [show V3 fmt [u[i]]=V6 fmt u[i] by simp [V3]] at CE;generalize Q2 (V1 fmt L (u.take i) N).1=S at *;generalize (V1 fmt L (u.take i) N).2=M at *;have hM:M≤200000:=yY;have CX:=zW (fun W (hW:Nums W g L M)=>Z2 L g M 3 W hW yY yX yX);have CLG:=zW (fun W (hW:Nums W g L (M+1))=>Z1y fmt ht.o L g (M+1) u[i] W hW hh o1 o2 yY yY);have hj:yK (Q2 (V1 fmt L (u.take (i+1)) N).1=S++Q2 (elS fmt L u[i] M).1):=e1;have hl:yK ((V1 fmt L (u.take (i+1)) N).2=(elS fmt L u[i] M).2):=e2;have hb:Q8 L M 3=0→(ofL (P5 fmt L u[i] (M+1)).1).size≤1000:=fun h0=>by
    have h1:=Q0w fmt L [u[i]] M (fun x hx=>by rw [aJ.1 hx];exact hZ);have h2:Q2 (V1 fmt L [u[i]] M).1=Q2 (elS fmt L u[i] M).1:=(by simp [V1]);rw [h2,(X1a fmt L u[i] M h0).1] at h1;rw [Q6];simp at h1;omega
   have Hb:(ofL S).size≤60000:=hC;have He:=HN.o.lt;clear e1 e2 hX hT o1 o2 o3 o4 o5 o6 hh hc hC;go_upto_region 7 with (first
    | (go_at_call 91;refine (CLr.o).mono ?_;rintro e w' ⟨rfl,rfl⟩)
    | (go_at_call 171;refine (CS.o).mono ?_;rintro e w1 ⟨v1,rfl,hI,hn⟩;have ha:=zW hI;have hr:=zW (HB.o.trans (.of_below hn));have hu:=zW (HN.o.below hn yQ);have Hj:=hn.size;clear hI hn)
    | (go_at_call 22;refine (CE.o _ _ (by exact OwnE.rd Q5 ha.o)).mono ?_;rintro e w2 ⟨rfl,ho⟩;have he:=zW (Q7 ha.o fun k hk=>ho.block k (ha.o.lt k hk).2);have hs:=zW (hr.o.trans (.of_below ho));have hw:=zW (hu.o.below ho yQ);clear ho))
   obtain ⟨A1,c1,hY⟩:=Q0 he.o;subst hY;have hz:yK (∀ k,(Value.slice A1 ([u[i]]:List Tk).length c1).ownBlock=some k→k≠g):=fun k hk=>by have:=(he.o.lt k hk).1;omega
   have hA:yK (∀ W,But g w2 W→OwnE 31 tkC 3 W wr.heap.size (.slice A1 ([u[i]]:List Tk).length c1) [u[i]]):=fun W hW=>Q7 he.o fun k hk=>hW.block k (he.o.lt k hk).2 (hz.o k hk);have hG:([u[i]]:List Tk).length=1:=rfl;rw [hG] at hA ⊢;clear he ha hr hu hz hG CE CS CLr;by_cases h0:Q8 L M 3=0
   ·obtain ⟨l1,l2⟩:=X1a fmt L u[i] M h0;have hV:=hb h0;rw [h0] at CX;have HF:yK (ofL (Q2 (V1 fmt L (u.take (i+1)) N).1)=ofL S++ofL (P5 fmt L u[i] (M+1)).1):=(by show _=_;rw [hj.o,l1,I5]);have hm:yK ((V1 fmt L (u.take (i+1)) N).2=(P5 fmt L u[i] (M+1)).2):=hl.o.trans l2;clear l1 l2 hb hj hl h0;generalize ofL (V6 fmt u[i])=eb at *;generalize u[i]=y at *;obtain ⟨yk,yt,yd⟩:=y;simp only at CLG;generalize P5 fmt L ⟨yk,yt,yd⟩ (M+1)=lg at *;obtain ⟨lb,lN⟩:=lg;simp only at hV HF hm;generalize hSb:ofL S=Sb at *;generalize hlb:ofL lb=lbb at *;go_upto_region 8 with (go_at_call 34;refine (CX.o _ (by exact hw.o)).mono ?_;rintro e w3 ⟨rfl,hd,hg⟩;have hp:=zW (hs.o.trans hd);have hq:=zW hg;have hQ:=zW (hA.o _ hd);clear hd hg)
    obtain ⟨b1,o1,hS,_,q0,q1,q2⟩:=RdT.at_ (OwnE.rd Q5 hQ.o) 0 yW;subst hS;simp only [Nat.zero_mul,cV,List.getElem_cons_zero] at q0 q1 q2;go_wp2_with (go_at_call 172;refine (CLG.o _ (by exact hq.o)).mono ?_;rintro e w4 ⟨rfl,hD,hH⟩;have hJ:=zW (hp.o.trans hD);have hL:=zW hH;rw [hlb];clear hD hH)
    go_roundg (u.length - (i+1))
    case measure=>omega
    case rel=>exact ⟨i+1,rfl,by rw [HF.o],hlt,hJ.o,by show Nums _ _ _ _;rw [hm.o];exact hL.o,yQ⟩
   ·obtain ⟨l1,l2⟩:=X3n fmt L u[i] M h0;have Hg:(Q8 L M 3==0)=false:=(by simpa using h0);have HF:yK (ofL (Q2 (V1 fmt L (u.take (i+1)) N).1)=ofL S++ofL (V6 fmt u[i])):=(by show _=_;rw [hj.o,l1,I5]);have hm:yK ((V1 fmt L (u.take (i+1)) N).2=M+1):=hl.o.trans l2;clear l1 l2 hb hj hl h0 CLG;generalize Q8 L M 3=z at *;generalize ofL (V6 fmt u[i])=eb at *;generalize hSb:ofL S=Sb at *;go_wp2_with (go_at_call 34;refine (CX.o _ (by exact hw.o)).mono ?_;rintro e w3 ⟨rfl,hd,hg⟩;have hp:=zW (hs.o.trans hd);have hq:=zW hg;clear hd hg)
    go_roundg (u.length - (i+1))
    case measure=>omega
    case rel=>exact ⟨i+1,rfl,by rw [HF.o],hlt,hp.o,by show Nums _ _ _ _;rw [hm.o];exact hq.o,yQ⟩
  ·obtain rfl:i=u.length:=yY;rw [aW] at HN ⊢;go_wp2_with (go_at_call 91;refine (CLr.o).mono ?_;rintro e w' ⟨rfl,rfl⟩)
   first | go_ret | skip
   rw [hB.o];exact ⟨rfl,HB.o,HN.o⟩
theorem X6a {a:Act} {w:World} {o:Oper} (x:Operand) (s:fY) (ho:o.op=.call { callee:=.builtin .len,args:=#[x],argTypes:=#[9] }) (hx:a.eval x=.string s):(execOp a.eval o).run prog w=.ok (.value (.int .i64 s.size)) w:=by
 generalize a.eval=ρ at hx ⊢;unfold execOp;simp only [ho];go_simp
theorem V2n {a:Act} {w:World} {o:Oper} (x y:Operand) (n m:Int) (ho:o.op=.call { callee:=.builtin .min,args:=#[x,y],argTypes:=#[3,3] }) (hx:a.eval x=.int .i64 n) (hy:a.eval y=.int .i64 m) (h:n≤m):(execOp a.eval o).run prog w=.ok (.value (.int .i64 n)) w:=by
 generalize a.eval=ρ at hx hy ⊢;unfold execOp;simp only [ho];go_simp;omega
theorem X7p {P:Program} {w:World} {a:Act} {o:Oper} {f:FuncId} (x y z u:Operand) (ts:Array TypeId) (vx vy vz vu:Value) (ho:o.op=.call { callee:=.value (.func f),args:=#[x,y,z,u],argTypes:=ts }) (hx:a.eval x=vx) (hy:a.eval y=vy) (hz:a.eval z=vz) (hu:a.eval u=vu) (he:(callFunc f #[vx,vy,vz,vu]).run P w=.ok (.enter f #[vx,vy,vz,vu]) w):(execOp a.eval o).run P w=.ok (.enter f #[vx,vy,vz,vu]) w:=by
 have hf:a.eval (.func f)=.func (.func f) #[] #[]:=rfl;generalize a.eval=ρ at hx hy hz hu hf ⊢;unfold execOp;simp only [ho];go_simp
theorem U4b (s:fY) (w:World):Calls prog 176 #[.string s,.string ⟨#[32,9]⟩] w fun e w'=>e=.returned (.string (ofL (s.data.toList.dropWhile Q3g)))∧Below w.heap.size w w':=by
 have h:=Any.strings_TrimLeft_laid Tryz.lays161 yZ s ⟨#[32,9]⟩ w yX (fun j b h=>by
  have h:=cK h;have h:b=32∨b=9:=(by simpa using h);rcases h with rfl | rfl<;>decide)
 rw [show Lib.trimLeftS s.data.toList (⟨#[32,9]⟩:fY).data.toList=s.data.toList.dropWhile Q3g by
  unfold Lib.trimLeftS;congr 1;funext c;rw [Bool.eq_iff_iff];simp [Q3g]] at h
 exact h
theorem U2z (l:List UInt8) (m:Int) (w:World) (hl:l.length≤65536) (hm:w.cell? ⟨0,0,none⟩=some (.int .i64 m)):
 Calls prog 80 #[.string (ofL l),.string ⟨#[10]⟩] w fun e w'=>(∃ u b,e=.returned (.tuple #[.string (ofL (lnR l)),.string u,.bool b]))∧∃ n,w'=w.drewN n:=by
 refine (Tryz.strings_Cut (ofL l) ⟨#[10]⟩ m w (by rw [Q6];omega) hm).mono ?_;rintro e w' ⟨rfl,hn⟩;rw [show (ofL l).data.toList=l by simp [ofL]];exact ⟨⟨_,_,rfl⟩,hn⟩
theorem Z7u (l:List UInt8):(ofL l).toList.isEmpty=l.isEmpty:=by rw [I7]
theorem V6z (c:UInt8) (n:UInt8):((c.toNat:Int)==(n.toNat:Int))=(c==n):=by
 rw [Bool.eq_iff_iff,cM,cM];constructor
 ·intro h;exact cN.1 (by exact_mod_cast h)
 ·rintro rfl;rfl
theorem X5o (data:fY) (pre l:List UInt8) (m:Int) (bb:Bool) (w:World) (hm:w.cell? ⟨0,0,none⟩=some (.int .i64 m)) (hd:data.data.toList=pre++l) (hp:pre.length+(lnR l).length+1≤data.size) (hsz:data.size≤65536) (hb:Q6g (lnR l)=bb):
 Calls prog 148 #[.string data,.int .i64 (pre.length:Nat)] w fun e w'=>e=.returned (.tuple #[.int .i64 ((pre.length+(lnR l).length+1:Nat):Int),.bool bb])∧Below w.heap.size w w':=by
 have hx:=B7 data pre l hd;have he:pre.length+l.length=data.size:=(by rw [aC,hd,aA]);have CC:=zW (fun w hm=>U2z l m w yY hm);have CT:=zW (fun w=>U4b (ofL (lnR l)) w);rw [show (ofL (lnR l)).data.toList=lnR l by simp [ofL]] at CT;have hs:(ofL (lnR l)).size=(lnR l).length:=Q6 _;generalize hq:(lnR l).dropWhile Q3g=q at CT;have hg:=Z7s Q3g (lnR l);rw [hq] at hg;have hE:=Z7u q;have HB:=zW (aB w.heap.size w);have HM:=zW hm;have hi:((pre.length:Nat):Int)+((ofL (lnR l)).size:Int)+1≤(data.size:Int):=yY;have e1:IntKind.i64.wrap (((pre.length:Nat):Int)+((ofL (lnR l)).size:Int))=((pre.length:Nat):Int)+((ofL (lnR l)).size:Int):=(by rw [cQ];omega);have e2:IntKind.i64.wrap (((pre.length:Nat):Int)+((ofL (lnR l)).size:Int)+1)=((pre.length:Nat):Int)+((ofL (lnR l)).size:Int)+1:=(by rw [cQ];omega);have hh:yK (((pre.length:Nat):Int)+((ofL (lnR l)).size:Int)+1=((pre.length+(lnR l).length+1:Nat):Int)):=(by show _=_;omega);cases q with
 | nil=>
   obtain rfl:bb=true:=(by rw [←hb,V3f _ hq]);rw [show ([]:List UInt8).isEmpty=true from rfl] at hE;clear hd hq hb hm he hs hp hg;generalize ofL (lnR l)=t1 at *;generalize ofL ([]:List UInt8)=t2 at *;generalize ofL l=u1 at *;go_enter func148,ntmps148
   go_wp2_with (first
    | (go_at_call 80;refine (CC.o _ (by exact HM.o)).mono ?_;rintro e w1 ⟨⟨u,b,rfl⟩,n1,rfl⟩)
    | (go_at_call 176;refine (CT.o _).mono ?_;rintro e w2 ⟨rfl,ha⟩;have hf:=zW ((Q1 HB.o _).trans ha);clear ha))
   -- EMPTY
   refine zqR (l0:=#[false,false,false,false,false,false,false,false,false,false,false,false,false,false,false,false,false]) 17 rfl ?_;refine zqM 0 20 (.int .i64 (pre.length:Nat)) rfl ?_;refine zqM 1 21 (.string t1) rfl ?_;refine zzA 2 (.int .i64 (t1.size:Nat)) (some 22) rfl (fun _=>X6a _ t1 rfl yZ) ?_;refine zqB 3 23 (.int .i64 (((pre.length:Nat):Int)+(t1.size:Int))) rfl rfl (.int .i64 (pre.length:Nat)) (.int .i64 (t1.size:Nat)) ?_;refine zqB 4 24 (.int .i64 (((pre.length:Nat):Int)+(t1.size:Int)+1)) rfl rfl (.int .i64 (((pre.length:Nat):Int)+(t1.size:Int))) (.int .i64 1) ?_;refine zqM 5 25 (.string data) rfl ?_;refine zzA 6 (.int .i64 (data.size:Int)) (some 26) rfl (fun _=>X6a _ data rfl yZ) ?_;refine zzA 7 (.int .i64 (((pre.length:Nat):Int)+(t1.size:Int)+1)) (some 27) rfl (fun _=>V2n _ _ ((((pre.length:Nat):Int)+(t1.size:Int)+1)) ((data.size:Int)) rfl yZ yZ (by exact hi)) ?_;refine zqM 8 28 (.string t2) rfl ?_;refine zqB 9 29 (.bool true) rfl rfl (.string t2) (.string (⟨#[]⟩:fY)) ?_;refine zqM 10 30 (.bool true) rfl ?_;refine zqS 11 31 rfl ?_;refine zqS 12 32 rfl ?_;refine zqS 13 33 rfl ?_;refine zqP 14 34 (.bool true) rfl rfl true ?_;refine zqG 15 4 (.int .i64 (((pre.length:Nat):Int)+(t1.size:Int)+1)) rfl ?_;refine zqG 16 5 (.bool true) rfl ?_;refine bW yZ ?_ _;simp only [Act.put,zZ,zY,zX];go_wp2_with fail
   go_ret2
   refine ⟨?_,Q1 hf.o 1⟩;rw [←hh.o];rfl
   -- END
 | cons c q=>
   obtain rfl:bb=(c==35):=(by rw [←hb,Y2b _ c q hq]);rw [show (c::q).isEmpty=false from rfl] at hE;have hz:0 < (ofL (c::q)).size:=(by rw [Q6];simp);have hc:=at0 (ofL (c::q)) c q (by simp [ofL]) hz;have hj:(((ofL (c::q))[0].toNat:Int)==35)=(c==35):=(by rw [hc];exact V6z c 35);clear hd hq hb hm he hc hs hp hg;generalize ofL (lnR l)=t1 at *;generalize ofL (c::q)=t2 at *;generalize ofL l=u1 at *;go_enter func148,ntmps148
   go_wp2_with (first
    | (go_at_call 80;refine (CC.o _ (by exact HM.o)).mono ?_;rintro e w1 ⟨⟨u,b,rfl⟩,n1,rfl⟩)
    | (go_at_call 176;refine (CT.o _).mono ?_;rintro e w2 ⟨rfl,ha⟩;have hf:=zW ((Q1 HB.o _).trans ha);clear ha))
   -- FULL
   refine zqR (l0:=#[false,false,false,false,false,false,false,false,false,false,false,false,false,false,false,false,false]) 17 rfl ?_;refine zqM 0 20 (.int .i64 (pre.length:Nat)) rfl ?_;refine zqM 1 21 (.string t1) rfl ?_;refine zzA 2 (.int .i64 (t1.size:Nat)) (some 22) rfl (fun _=>X6a _ t1 rfl yZ) ?_;refine zqB 3 23 (.int .i64 (((pre.length:Nat):Int)+(t1.size:Int))) rfl rfl (.int .i64 (pre.length:Nat)) (.int .i64 (t1.size:Nat)) ?_;refine zqB 4 24 (.int .i64 (((pre.length:Nat):Int)+(t1.size:Int)+1)) rfl rfl (.int .i64 (((pre.length:Nat):Int)+(t1.size:Int))) (.int .i64 1) ?_;refine zqM 5 25 (.string data) rfl ?_;refine zzA 6 (.int .i64 (data.size:Int)) (some 26) rfl (fun _=>X6a _ data rfl yZ) ?_;refine zzA 7 (.int .i64 (((pre.length:Nat):Int)+(t1.size:Int)+1)) (some 27) rfl (fun _=>V2n _ _ ((((pre.length:Nat):Int)+(t1.size:Int)+1)) ((data.size:Int)) rfl yZ yZ (by exact hi)) ?_;refine zqM 8 28 (.string t2) rfl ?_;refine zqB 9 29 (.bool false) rfl rfl (.string t2) (.string (⟨#[]⟩:fY)) ?_;refine zqM 10 30 (.bool false) rfl ?_;refine zqM 11 31 (.string t2) rfl ?_;refine zqJ 12 32 (.int .u8 (t2[0].toNat:Int)) rfl rfl (.string t2) (.int .i64 0) ?_;refine zqB 13 33 (.bool (c==35)) rfl rfl (.int .u8 (t2[0].toNat:Int)) (.int .u8 35) ?_;refine zqP 14 34 (.bool (c==35)) rfl rfl false ?_;refine zqG 15 4 (.int .i64 (((pre.length:Nat):Int)+(t1.size:Int)+1)) rfl ?_;refine zqG 16 5 (.bool (c==35)) rfl ?_;refine bW yZ ?_ _;simp only [Act.put,zZ,zY,zX];go_wp2_with fail
   go_ret2
   refine ⟨?_,Q1 hf.o 1⟩;rw [←hh.o];rfl
   -- END
theorem Z9z (s:fY) (w:World) (hsz:s.size≤65536):
 Calls prog 149 #[.string s] w fun e w'=>e=.returned (.int .i64 (Q6z 65 s.data.toList:Nat))∧w=w':=by
 obtain ⟨R,he⟩:∃ R:Ending→World→Prop,yK (R=fun e w'=>e=.returned (.int .i64 (Q6z 65 s.data.toList:Nat))∧w=w'):=⟨_,rfl⟩;rw [←he.o];generalize hN:Q6z 65 s.data.toList=N at he;have HN:=zW hN;clear hN;obtain ⟨wo,hf⟩:∃ wo,yK (wo=w):=⟨w,rfl⟩;go_enter func149,ntmps149
 go_wp2_with fail
 go_loopg [3] 65 (fun gk iv wr=>∃ k:Nat,iv=.int .i64 k∧k≤65∧k≤s.size∧yK (k+Q6z (65 - k) (s.data.toList.drop k)=N)∧yK (wr=wo)∧65 - k≤gk)
 case atStart=>exact ⟨0,rfl,aO _,aO _,by show _=_;rw [bI];exact HN.o,hf.o.symm,yQ⟩
 case round=>
  obtain ⟨k,rfl,hk,hl,HK,HW,hgk⟩:=hrel;have ha:k=65∨k=s.size→k=N:=by
   intro h;have hh:=HK.o;rcases h with h | h
   ·subst h;simpa [Q6z] using hh
   ·rw [eD (by rw [←aC];omega)] at hh;cases h65:65 - k with
    | zero=>rw [h65] at hh;simpa [Q6z] using hh
    | succ j=>rw [h65] at hh;simpa [Q6z] using hh
  by_cases h1:k < s.size
  ·by_cases h2:k < 65
   ·have hb:s.data.toList.drop k=s[k]::s.data.toList.drop (k+1):=aQ (by rw [←aC];exact h1);obtain ⟨j,hj⟩:∃ j,65 - k=j+1:=⟨64 - k,yY⟩;have hh:=HK.o;rw [hb,hj,Q6z] at hh;have hi:(k:Int) < 65:=yY;have hm:s[k].toNat < 256:=s[k].toNat_lt;by_cases a1:97≤s[k].toNat
    ·by_cases a2:s[k].toNat≤122
     ·skip
      have g97:(97:Int)≤(s[k].toNat:Int):=yY;have l122:(s[k].toNat:Int)≤(122:Int):=yY;have hc:Q1h s[k]=true:=(by unfold Q1h;rw [cG];omega);rw [aK hc] at hh;have hd:yK (k+1+Q6z (65 - (k+1)) (s.data.toList.drop (k+1))=N):=(by show _=_;rw [show 65 - (k+1)=j by omega];omega);clear hh hb hc ha HK HN;go_wp2_with fail
      go_roundg (65 - (k+1))
      case measure=>omega
      case rel=>exact ⟨k+1,rfl,yY,yY,hd.o,HW.o,yY⟩
     ·skip
      have g97:(97:Int)≤(s[k].toNat:Int):=yY;have l122:¬ (s[k].toNat:Int)≤(122:Int):=yY;have g48:(48:Int)≤(s[k].toNat:Int):=yY;have l57:¬ (s[k].toNat:Int)≤(57:Int):=yY;have e46:((s[k].toNat:Int)==46)=false:=(by rw [aI];omega);have e95:((s[k].toNat:Int)==95)=false:=(by rw [aI];omega);have e45:((s[k].toNat:Int)==45)=false:=(by rw [aI];omega);have hc:Q1h s[k]=false:=(by unfold Q1h;rw [cY];omega);rw [aE (by rw [hc];decide),cV] at hh;subst hh;clear hb hc ha HK HN;go_wp2_with fail
      first | go_ret | skip
      rw [he.o];exact ⟨rfl,(HW.o.trans hf.o).symm⟩
    ·by_cases a3:48≤s[k].toNat
     ·by_cases a4:s[k].toNat≤57
      ·skip
       have g97:¬ (97:Int)≤(s[k].toNat:Int):=yY;have g48:(48:Int)≤(s[k].toNat:Int):=yY;have l57:(s[k].toNat:Int)≤(57:Int):=yY;have hc:Q1h s[k]=true:=(by unfold Q1h;rw [cG];omega);rw [aK hc] at hh;have hd:yK (k+1+Q6z (65 - (k+1)) (s.data.toList.drop (k+1))=N):=(by show _=_;rw [show 65 - (k+1)=j by omega];omega);clear hh hb hc ha HK HN;go_wp2_with fail
       go_roundg (65 - (k+1))
       case measure=>omega
       case rel=>exact ⟨k+1,rfl,yY,yY,hd.o,HW.o,yY⟩
      ·by_cases a5:s[k].toNat=95
       ·skip
        have g97:¬ (97:Int)≤(s[k].toNat:Int):=yY;have g48:(48:Int)≤(s[k].toNat:Int):=yY;have l57:¬ (s[k].toNat:Int)≤(57:Int):=yY;have e46:((s[k].toNat:Int)==46)=false:=(by rw [aI];omega);have e95:((s[k].toNat:Int)==95)=true:=(by rw [cM];omega);have hc:Q1h s[k]=true:=(by unfold Q1h;rw [cG];omega);rw [aK hc] at hh;have hd:yK (k+1+Q6z (65 - (k+1)) (s.data.toList.drop (k+1))=N):=(by show _=_;rw [show 65 - (k+1)=j by omega];omega);clear hh hb hc ha HK HN;go_wp2_with fail
        go_roundg (65 - (k+1))
        case measure=>omega
        case rel=>exact ⟨k+1,rfl,yY,yY,hd.o,HW.o,yY⟩
       ·skip
        have g97:¬ (97:Int)≤(s[k].toNat:Int):=yY;have g48:(48:Int)≤(s[k].toNat:Int):=yY;have l57:¬ (s[k].toNat:Int)≤(57:Int):=yY;have e46:((s[k].toNat:Int)==46)=false:=(by rw [aI];omega);have e95:((s[k].toNat:Int)==95)=false:=(by rw [aI];omega);have e45:((s[k].toNat:Int)==45)=false:=(by rw [aI];omega);have hc:Q1h s[k]=false:=(by unfold Q1h;rw [cY];omega);rw [aE (by rw [hc];decide),cV] at hh;subst hh;clear hb hc ha HK HN;go_wp2_with fail
        first | go_ret | skip
        rw [he.o];exact ⟨rfl,(HW.o.trans hf.o).symm⟩
     ·by_cases a6:s[k].toNat=46
      ·skip
       have g97:¬ (97:Int)≤(s[k].toNat:Int):=yY;have g48:¬ (48:Int)≤(s[k].toNat:Int):=yY;have e46:((s[k].toNat:Int)==46)=true:=(by rw [cM];omega);have hc:Q1h s[k]=true:=(by unfold Q1h;rw [cG];omega);rw [aK hc] at hh;have hd:yK (k+1+Q6z (65 - (k+1)) (s.data.toList.drop (k+1))=N):=(by show _=_;rw [show 65 - (k+1)=j by omega];omega);clear hh hb hc ha HK HN;go_wp2_with fail
       go_roundg (65 - (k+1))
       case measure=>omega
       case rel=>exact ⟨k+1,rfl,yY,yY,hd.o,HW.o,yY⟩
      ·by_cases a7:s[k].toNat=45
       ·skip
        have g97:¬ (97:Int)≤(s[k].toNat:Int):=yY;have g48:¬ (48:Int)≤(s[k].toNat:Int):=yY;have e46:((s[k].toNat:Int)==46)=false:=(by rw [aI];omega);have e95:((s[k].toNat:Int)==95)=false:=(by rw [aI];omega);have e45:((s[k].toNat:Int)==45)=true:=(by rw [cM];omega);have hc:Q1h s[k]=true:=(by unfold Q1h;rw [cG];omega);rw [aK hc] at hh;have hd:yK (k+1+Q6z (65 - (k+1)) (s.data.toList.drop (k+1))=N):=(by show _=_;rw [show 65 - (k+1)=j by omega];omega);clear hh hb hc ha HK HN;go_wp2_with fail
        go_roundg (65 - (k+1))
        case measure=>omega
        case rel=>exact ⟨k+1,rfl,yY,yY,hd.o,HW.o,yY⟩
       ·skip
        have g97:¬ (97:Int)≤(s[k].toNat:Int):=yY;have g48:¬ (48:Int)≤(s[k].toNat:Int):=yY;have e46:((s[k].toNat:Int)==46)=false:=(by rw [aI];omega);have e95:((s[k].toNat:Int)==95)=false:=(by rw [aI];omega);have e45:((s[k].toNat:Int)==45)=false:=(by rw [aI];omega);have hc:Q1h s[k]=false:=(by unfold Q1h;rw [cY];omega);rw [aE (by rw [hc];decide),cV] at hh;subst hh;clear hb hc ha HK HN;go_wp2_with fail
        first | go_ret | skip
        rw [he.o];exact ⟨rfl,(HW.o.trans hf.o).symm⟩
   ·have hg:=ha (.inl yY);have hi:¬ (k:Int) < 65:=yY;subst hg;clear ha HK HN;go_wp2_with fail
    first | go_ret | skip
    rw [he.o];exact ⟨rfl,(HW.o.trans hf.o).symm⟩
  ·have hg:=ha (.inr yY);subst hg;clear ha HK HN;go_wp2_with fail
   first | go_ret | skip
   rw [he.o];exact ⟨rfl,(HW.o.trans hf.o).symm⟩
theorem Z5a (l:List UInt8) (k:Nat) (h:k < l.length) (hc:l[k]=92) (he:k+P7 (l.drop k) < l.length):k+1 < l.length∧k+2+P7 (l.drop (k+2))=k+P7 (l.drop k):=by
 rw [aQ h,hc] at he ⊢;by_cases h1:k+1 < l.length
 ·rw [aQ h1,X7n] at he ⊢;rw [show k+1+1=k+2 from rfl] at he ⊢;exact ⟨h1,yY⟩
 ·rw [eD yY] at he;have:P7 [92]=2:=yX;omega
theorem Z4z (l:List UInt8) (k:Nat) (h:k < l.length) (hc:l[k]=10):P7 (l.drop k)=0:=by
 rw [aQ h,hc,Y1v]
theorem Y1u (l:List UInt8) (k:Nat) (h:k < l.length) (h1:l[k]≠10) (h2:l[k]≠92):k+1+P7 (l.drop (k+1))=k+P7 (l.drop k):=by
 rw [aQ h,Y7b _ _ h1 h2];omega
theorem V4x (data:fY) (pre l:List UInt8) (w:World) (hd:data.data.toList=pre++l) (he:P7 l < l.length) (hsz:data.size≤65536):
 Calls prog 150 #[.string data,.int .i64 (pre.length:Nat)] w fun e w'=>e=.returned (.int .i64 (pre.length+P7 l:Nat))∧w=w':=by
 obtain ⟨R,hi⟩:∃ R:Ending→World→Prop,yK (R=fun e w'=>e=.returned (.int .i64 (pre.length+P7 l:Nat))∧w=w'):=⟨_,rfl⟩;rw [←hi.o];have hh:data.size=pre.length+l.length:=(by rw [aC,hd,aA]);have hm:=zW (fun (k p:Nat) (h:k < l.length) (hp:p=pre.length+k) (h2:p < data.size)=>show data[p]=l[k] by
  subst hp;have h3:(pre++l)[pre.length+k]'yV=l[k]:=(by rw [bK yY];simp);have h4:data.data.toList[pre.length+k]'(by rw [hd];simp;omega)=l[k]:=(by simp only [hd];exact h3);exact h4)
 obtain ⟨wo,hj⟩:∃ wo,yK (wo=w):=⟨w,rfl⟩;have H0:yK (0+P7 (l.drop 0)=P7 l):=(by show _=_;rw [cO,bI]);generalize P7 l=E at *;have hl:pre.length+l.length≤data.size:=yY;clear hd hh;go_enter func150,ntmps150
 go_wp2_with fail
 go_loopg [1] (E+1) (fun gk iv wr=>∃ k:Nat,iv=.int .i64 (pre.length+k:Nat)∧k≤E∧yK (k+P7 (l.drop k)=E)∧yK (wr=wo)∧E+1 - k≤gk)
 case atStart=>exact ⟨0,rfl,aO _,H0.o,hj.o.symm,yQ⟩
 case round=>
  obtain ⟨k,rfl,hk,HK,HW,hgk⟩:=hrel;clear H0;have hc:k < l.length:=yY;obtain ⟨p,hf⟩:∃ p,p=pre.length+k:=⟨_,rfl⟩;rw [←hf];have hp:p < data.size:=yY;have ha:=hm.o k p hc hf hp;have HP:=zW hf;clear hf;have hq:p+1≤data.size:=yY;by_cases h10:l[k]=10
  ·have hz:=Z4z l k hc h10;have hn:k=E:=(by have:=HK.o;omega);have t1:((data[p].toNat:Int) != 10)=false:=(by rw [ha,h10];rfl);have t2:((data[p].toNat:Int)==10)=true:=(by rw [ha,h10];rfl);subst hn;have ho:min (p:Int) (data.size:Int)=(p:Int):=yY;clear ha h10 hz HK;go_wp2_with fail
   first | go_ret | skip
   rw [hi.o];refine ⟨?_,(HW.o.trans hj.o).symm⟩;show Ending.returned (.int .i64 (p:Int))=_;rw [HP.o]
  ·have t1:((data[p].toNat:Int) != 10)=true:=by
    rw [ha,dZ];intro e;exact h10 (cN.1 (by exact_mod_cast e))
   have t2:((data[p].toNat:Int)==10)=false:=by
    rw [ha,aI];intro e;exact h10 (cN.1 (by exact_mod_cast e))
   by_cases h92:l[k]=92
   ·obtain ⟨s1,s2⟩:=Z5a l k hc h92 (by rw [HK.o];exact he);have t3:((data[p].toNat:Int)==92)=true:=(by rw [ha,h92];rfl);have hb:yK (k+2+P7 (l.drop (k+2))=E):=s2.trans HK.o;have hg:k+2≤E:=(by have:=hb.o;omega);have HS:yK ((p:Int)+1+1=((pre.length+(k+2):Nat):Int)):=(by show _=_;have:=HP.o;omega);clear ha h10 h92 s2;go_wp2_with fail
    rw [HS.o];go_roundg (E+1 - (k+2))
    case measure=>omega
    case rel=>exact ⟨k+2,rfl,hg,hb.o,HW.o,yQ⟩
   ·have t3:((data[p].toNat:Int)==92)=false:=by
     rw [ha,aI];intro e;exact h92 (cN.1 (by exact_mod_cast e))
    have hb:yK (k+1+P7 (l.drop (k+1))=E):=(Y1u l k hc h10 h92).trans HK.o;have hg:k+1≤E:=(by have:=hb.o;omega);have HS:yK ((p:Int)+1=((pre.length+(k+1):Nat):Int)):=(by show _=_;have:=HP.o;omega);clear ha h10 h92;go_wp2_with fail
    rw [HS.o];go_roundg (E+1 - (k+1))
    case measure=>omega
    case rel=>exact ⟨k+1,rfl,hg,hb.o,HW.o,yQ⟩
end Go.Proofs.YtfkojnofbpdjdaaGreatDoor
namespace Go.Proofs.YtfkojnofbpdjdaaGreatDoor
open Tryz
open Go.RowKit Go.Maps
def NameSet (w:World) (b n:Nat) (ns:List (List UInt8)):Prop:=
 ∃ D:DataW Unit,w.ownsMap prog 9 (plainElem prog 4) b n D∧IsMap D∧∀ s:fY,s.size≤maxLen→D.atKey (.string s.data.toList) (.lit (.bool false))=.lit (.bool (ns.any fun x=>x==s.data.toList))
theorem X4p:Keyed prog 9:=string_keyed underlying9
theorem Z5p (s:fY) (h:s.size≤maxLen):keyOf prog 9 (.string s)=some (.string s.data.toList):=by
 unfold keyOf;rw [underlying9];simp [mapKey,underlying9,h]
theorem V0v (w:World):(zeroValue 4).run prog w=.ok (.bool false) w:=by kernel_rfl
theorem NameSet.made (w:World):NameSet (w.alloc (.map #[] 0)) w.heap.size 0 []:=
 ⟨_,World.ownsMap_made _ _ _ _,isMap_empty,fun _ _=>rfl⟩
theorem NameSet.lt {w:World} {b n:Nat} {ns:List (List UInt8)} (h:NameSet w b n ns):b < w.heap.size:=by
 obtain ⟨D,h1,_⟩:=h;exact h1.lt
theorem NameSet.same {w w':World} {b n:Nat} {ns:List (List UInt8)} (h:NameSet w b n ns) (e:w'.heap[b]? =w.heap[b]?):NameSet w' b n ns:=by
 obtain ⟨D,⟨es,clock,hb,F,hs,hD⟩,h2⟩:=h;exact ⟨D,⟨es,clock,e.trans hb,F,hs,hD⟩,h2⟩
theorem X0c {v:Value} {x:Bool} {ps:List MemPlace} (h:plainElem (H:=Unit) prog 4 v=some (.lit (.bool x),ps)):v=.bool x:=by
 unfold plainElem at h;rw [underlying4] at h;cases v<;>simp_all
theorem NameSet.look {w:World} {b n:Nat} {ns:List (List UInt8)} (h:NameSet w b n ns) (s:fY) (hs:s.size≤maxLen):
 (Instr.lookup 212 (.map (some b)) (.string s) false).run prog w=.ok (.bool (ns.any fun x=>x==s.data.toList)) w:=by
 obtain ⟨D,h1,h2,h3⟩:=h;obtain ⟨v,ps,ha,hR⟩:=h1.lookup X4p underlying212 (V0v w) (plainElem_bool underlying4 false) (Z5p s hs);rw [h3 s hs] at hR;rw [ha,X0c hR]
theorem NameSet.put {w:World} {b n:Nat} {ns:List (List UInt8)} (h:NameSet w b n ns) (s:fY) (hs:s.size≤maxLen) (hn:n < maxLen):
 ∃ w2,(Instr.mapUpdate 212 (.map (some b)) (.string s) (.bool true)).run prog w=.ok () w2∧NameSet w2 b (n+1) (ns++[s.data.toList])∧w.grownBy w2 (some b):=by
 obtain ⟨D,h1,h2,h3⟩:=h;have ha:=Z5p s hs;obtain ⟨w2,hc,hb,hg⟩:=h1.update X4p underlying212 hn ha (plainElem_bool (H:=Unit) underlying4 true);refine ⟨w2,hc,⟨_,hb,h2.put _ _,fun u hu=>?_⟩,hg⟩;by_cases e:u.data.toList=s.data.toList
 ·rw [e,atKey_put_same h2 (X4p.key ha)];simp
 ·rw [atKey_put_other (fun e'=>e (by injection e'))];rw [h3 u hu];simp;intro e';exact absurd (by rw [e']) e
theorem NameSet.apart {w:World} {b n:Nat} {ns:List (List UInt8)} (h:NameSet w b n ns) {B:Nat} {e:TypeId} {size m:Nat} {v:Value} {xs:List Value} (ho:w.ownsRow B e size v m xs):v.ownBlock≠some b:=by
 intro hk;obtain ⟨D,⟨es,clock,hb,_⟩,_⟩:=h;obtain ⟨cur,hc⟩:=P3 ho hk;rw [hc] at hb;cases hb
theorem NameSet.apartC {w:World} {b n:Nat} {ns:List (List UInt8)} (h:NameSet w b n ns) {g:Nat} {cs:Array Value} {t:TypeId} (hg:w.heap[g]? =some (.cells cs t)):g≠b:=by
 intro e;subst e;obtain ⟨D,⟨es,clock,hb,_⟩,_⟩:=h;rw [hg] at hb;cases hb
end Go.Proofs.YtfkojnofbpdjdaaGreatDoor
namespace Go.Proofs.YtfkojnofbpdjdaaGreatDoor
open Tryz
open Go.RowKit
section
variable {B g b n:Nat} {data:fY} {fr:Nat} {lv:Value} {ps:List Pt} {w w':World} {ns:List (List UInt8)}
theorem PsB.map (h:PsB B g data fr lv ps w) (hn:NameSet w b n ns) (hg:w.grownBy w' (some b)):PsB B g data fr lv ps w':=
 ⟨(hg.block g h.gsz (fun e=>hn.apartC h.box (by injection e))).trans h.box,Q7 h.own fun k hk=>hg.block k (h.own.lt k hk).2 (fun e=>hn.apart h.own (by rw [hk];exact e)),h.lt⟩
theorem NameSet.keep (hn:NameSet w b n ns) (h:PsB B g data fr lv ps w) (hk:∀ k,k < w.heap.size→k≠g→lv.ownBlock≠some k→w'.heap[k]? =w.heap[k]?):NameSet w' b n ns:=
 hn.same (hk b hn.lt (fun e=>hn.apartC h.box e.symm) (hn.apart h.own))
theorem NameSet.below (hn:NameSet w b n ns) (hb:Below w.heap.size w w'):NameSet w' b n ns:=hn.same (hb.block b hn.lt)
end
theorem V5d (dn td:List RL) (x:RL) (data:fY) (hd:data.data.toList=X6 (dn++x::td)):data.data.toList=X6 dn++(E3 x++X6 td):=by
 rw [hd,X2h];rfl
theorem Y9s (data:fY) (ls:List RL) (m:Int) (w:World) (hm:w.cell? ⟨0,0,none⟩=some (.int .i64 m)) (hd:data.data.toList=X6 ls) (hok:∀ x∈ls,Y0i x) (hk:(Z1 ls).Nodup) (hE:(Z1 ls).length≤1000) (hsz:data.size≤65536):
 Calls prog 95 #[.string data] w (D6 (P9 (Y4 ls).1 (Y4 ls).2) w):=by
 obtain ⟨R,hT⟩:∃ R:Ending→World→Prop,yK (R=D6 (P9 (Y4 ls).1 (Y4 ls).2) w):=⟨_,rfl⟩;rw [←hT.o];have CP:=zW (fun w=>Q5s data w);have HD:=zW hd;have Hp:=zW hok;have HK:=zW hk;have hO:=zW hE;have HM:=zW hm;have Hg:∀ w:World,(Instr.makeMap 212 none).run prog w=.ok (.map (some w.heap.size)) (w.alloc (.map #[] 0)):=fun _=>rfl;clear hd hok hk hE hm;go_enter func95,ntmps95
 go_upto_region 4 with (go_at_call 142;refine (CP.o _).mono ?_;rintro e w0 ⟨g,rfl,Hi,hZ⟩;have hQ:=zW Hi;have hG:=zW hZ;clear Hi hZ)
 have hL:=hG.o.size;have hi:=zW (hQ.o.below ((aB w0.heap.size w0).alloc yQ (.map #[] 0)));have hc:=zW (NameSet.made w0);have hb:=zW (hG.o.alloc hL (.map #[] 0));have HH:=Hg w0;clear Hg;go_upto_region 5 with fail
 generalize w0.alloc (.map #[] 0)=w1 at hi hc hb ⊢;obtain ⟨bm,Hb⟩:∃ bm,yK (bm=w0.heap.size):=⟨_,rfl⟩;have Hx:w.heap.size≤bm:=(by rw [Hb.o];exact hL);rw [←Hb.o] at hc ⊢;clear hQ hG hL HH;go_loopg [3] ls.length (fun gk av wr=>∃ dn td,yK (ls=dn++td)∧av=.int .i64 ((X6 dn).length:Nat)∧(∃ lv,yK (PsB w.heap.size g data (Z4 (Y4 dn).1).length lv (P1 (Y4 dn).1) wr))∧yK (NameSet wr bm (Z1 dn).length (Z1 dn))∧yK (Below w.heap.size w wr)∧td.length≤gk)
 case atStart=>exact ⟨[],ls,rfl,rfl,⟨_,hi.o⟩,hc.o,hb.o,yQ⟩
 case round=>
  obtain ⟨dn,td,HE,rfl,⟨lv,HP⟩,HS,HB,hgk⟩:=hrel;clear hi hb hc;cases td with
  | nil=>
    have he:ls=dn:=(by have:=HE.o;rwa [aX] at this);subst he;have hH:(X6 ls).length=data.size:=(by rw [aC,HD.o]);have hw:=C6 (Y4 ls).1;have hD:(Z4 (Y4 ls).1).length≤data.size:=by
     rw [←hH,Q0p,aA];omega
    rw [Q0r] at hw;have hE:=hO.o;have Hc:data.extract (Z4 (Y4 ls).1).length data.size=ofL (Y4 ls).2:=B7 _ _ _ (by rw [HD.o,Q0p]);have HC:=zW (X8d HP.o hD yY yY);rw [Hc,show (⟨#[]⟩:fY)=ofL [] from rfl,←Q5t] at HC;clear Hc hD hw hE;rw [hH];clear hH;go_wp2_with (go_at_call 147;refine (HC.o).mono ?_;rintro e w1 ⟨v,rfl,ho,ha⟩;have HO:=zW ho;have hb:=zW (HB.o.trans ha);obtain ⟨A,c,rfl⟩:=Q0 ho;clear ho ha)
    go_ret3
    rw [hT.o];exact ⟨_,rfl,HO.o,hb.o⟩
  | cons x td=>
    have hx:=Hp.o x (by rw [HE.o];simp);have hs:=V5d dn td x data (by rw [HD.o,HE.o]);have hp:(X6 dn).length+(E3 x).length+(X6 td).length=data.size:=(by rw [aC,hs];simp;omega);have Hk:0 < (E3 x).length:=by cases x<;>simp [E3]<;>omega
    have hu:yK ((X6 (dn++[x])).length=(X6 dn).length+(E3 x).length):=(by show _=_;rw [X2h];simp [X6]);have hP:yK (ls=dn++[x]++td):=(by show _=_;rw [HE.o];simp);have Hy:td.length+1≤gk:=hgk;have HL:((X6 dn).length:Int) < (data.size:Int):=yY;cases x with
    | skip l=>
      have hF:lnR (E3 (.skip l)++X6 td)=l:=by
       rw [show E3 (.skip l)++X6 td=l++10::X6 td by simp [E3]];exact Z1x l _ hx.1
      have ht:(E3 (.skip l)).length=l.length+1:=(by simp [E3]);have CS:=zW (fun W hW=>X5o data (X6 dn) (E3 (.skip l)++X6 td) m true W hW hs (by rw [hF];omega) hsz (by rw [hF];exact hx.2));rw [hF,show (X6 dn).length+l.length+1=(X6 (dn++[.skip l])).length by rw [hu.o,ht];rfl] at CS;have hA:yK (Y4 (dn++[.skip l])=((Y4 dn).1,(Y4 dn).2++(l++[10]))):=(by show _=_;rw [Q6c];rfl);have hz:=zW (Z1s dn l);clear hF ht hs hx hp Hk;go_wp2_with (go_at_call 148;refine (CS.o _ (by exact X8 HM.o HB.o)).mono ?_;rintro e w1 ⟨rfl,ha⟩;have hi:=zW (HP.o.below ha);have hc:=zW (HS.o.below ha);have hb:=zW (HB.o.trans (ha.mono HB.o.size));clear ha)
      go_roundg td.length
      case measure=>omega
      case rel=>
       refine ⟨dn++[RL.skip l],td,hP.o,rfl,⟨lv,?_⟩,?_,hb.o,yQ⟩
       ·rw [hA.o];exact hi.o
       ·rw [hz.o];exact hc.o
    | unit key ts=>
      obtain ⟨Hz,HA,He,hf⟩:=hx;have hR:E3 (.unit key ts)=key++(61::(Q2 ts++[10])):=rfl;have ht:(E3 (.unit key ts)).length=key.length+1+(Q2 ts).length+1:=(by rw [hR];simp;omega);have hg:Q6g (lnR (E3 (.unit key ts)++X6 td))=false:=by
       rw [hR];cases key with
       | nil=>simp at Hz
       | cons c q=>exact V3e c _ (He c yW)
      have HF:(lnR (E3 (.unit key ts)++X6 td)).length+1≤(E3 (.unit key ts)).length:=by
       have h1:=V3r (key++(61::Q2 ts)) (X6 td);rw [show E3 (.unit key ts)++X6 td=key++(61::Q2 ts)++10::X6 td by rw [hR];simp,ht];simp at h1 ⊢;omega
      have CS:=zW (fun W hW=>X5o data (X6 dn) (E3 (.unit key ts)++X6 td) m false W hW hs yY hsz hg);generalize (X6 dn).length+(lnR (E3 (.unit key ts)++X6 td)).length+1=nx at CS;have hr:data.data.toList=X6 dn++(key++61::(Q2 ts++10::X6 td)):=(by rw [hs,hR];simp);have hV:data.extract (X6 dn).length data.size=ofL (key++61::(Q2 ts++10::X6 td)):=B7 data (X6 dn) _ hr;have Hl:(ofL (key++61::(Q2 ts++10::X6 td))).size≤65536:=(by rw [Q6];simp;omega);have CKy:=zW (fun W=>Z9z (ofL (key++61::(Q2 ts++10::X6 td))) W Hl);rw [show (ofL (key++61::(Q2 ts++10::X6 td))).data.toList=key++61::(Q2 ts++10::X6 td) by simp [ofL],Z5o 65 key _ yY He] at CKy;have HJ:(X6 dn).length+key.length < data.size:=yY;have hU:data[(X6 dn).length+key.length]=61:=by
       have h3:(X6 dn++(key++61::(Q2 ts++10::X6 td)))[(X6 dn).length+key.length]'yW=61:=by
        rw [bK yY,bK yY];simp
       have h4:data.data.toList[(X6 dn).length+key.length]'(by rw [hr];simp)=61:=(by simp only [hr];exact h3);exact h4
      have t61:((data[(X6 dn).length+key.length].toNat:Int) != 61)=false:=(by rw [hU];rfl);have hX:data.extract (X6 dn).length ((X6 dn).length+key.length)=ofL key:=T0 data (X6 dn) key (61::(Q2 ts++10::X6 td)) _ (by rw [hr];simp) rfl;have hv:=Y7u dn key ts td (by rw [←HE.o];exact HK.o);have hh:(Z1 dn).length≤1000:=by
       have h1:=hO.o;rw [HE.o,I3,aA] at h1;omega
      have hq:(X6 dn++(key++[61])).length=(X6 dn).length+key.length+1:=yV;have hC:data.data.toList=(X6 dn++(key++[61]))++(Q2 ts++10::X6 td):=(by rw [hr];simp);have hI:P7 (Q2 ts++10::X6 td)=(Q2 ts).length:=X7m _ ts hf.els;have CE:=zW (fun W=>V4x data (X6 dn++(key++[61])) (Q2 ts++10::X6 td) W hC (by rw [hI];simp) hsz);rw [hI,hq] at CE;have hY:data.extract ((X6 dn).length+key.length+1) ((X6 dn).length+key.length+1+(Q2 ts).length)=ofL (Q2 ts):=by
       have:=T0 data (X6 dn++(key++[61])) (Q2 ts) (10::X6 td) ((X6 dn).length+key.length+1+(Q2 ts).length) (by rw [hC];simp) (by rw [hq]);rw [hq] at this;exact this
      have hN:=zW (fun W=>X2m (ofL (Q2 ts)) ts W ⟨by simp [ofL],hf.els,hf.len,by rw [Q6];omega⟩ hf.cont);have hy:=Q0p dn;have Hw:data.extract (Z4 (Y4 dn).1).length ((X6 dn).length+key.length+1)=ofL ((Y4 dn).2++(key++[61])):=
       T0 data (Z4 (Y4 dn).1) ((Y4 dn).2++(key++[61])) (Q2 ts++10::X6 td) _ (by rw [hC,hy];simp) (by rw [hy];simp;omega)
      have hD:(Z4 (Y4 dn).1).length≤(X6 dn).length+key.length+1:=(by rw [hy,aA];omega);have hw:=C6 (Y4 dn).1;rw [Q0r] at hw;have HU:=zW (fun (lv:Value) (w':World) (h:PsB w.heap.size g data (Z4 (Y4 dn).1).length lv (P1 (Y4 dn).1) w')=>X4u ((X6 dn).length+key.length+1) ((X6 dn).length+key.length+1+(Q2 ts).length) (ofL key) h hD yY yY yY yY);rw [Hw,hY,show (⟨#[]⟩:fY)=ofL [] from rfl,←Q2j (Y4 dn).1 ⟨(Y4 dn).2++(key++[61]),key,ts⟩,show (((X6 dn).length+key.length+1+(Q2 ts).length:Nat):Int)=((X6 dn).length:Int)+(key.length:Int)+1+((Q2 ts).length:Int) by omega,show (((X6 dn).length+key.length+1:Nat):Int)=((X6 dn).length:Int)+(key.length:Int)+1 by omega] at HU;have hA:yK (Y4 (dn++[.unit key ts])=((Y4 dn).1++[⟨(Y4 dn).2++(key++[61]),key,ts⟩],[10])):=(by show _=_;rw [Q6c];rfl);have hz:=zW (Z1t dn key ts);have Ho:yK ((Z4 (Y4 (dn++[.unit key ts])).1).length=(X6 dn).length+key.length+1+(Q2 ts).length):=by
       show _=_;rw [hA.o,Q2l,hy];simp;omega
      have Hv:yK (((X6 dn).length:Int)+(key.length:Int)+1+((Q2 ts).length:Int)+1=((X6 (dn++[.unit key ts])).length:Nat)):=(by show _=_;rw [hu.o,ht];omega);have HG:min (((X6 dn).length:Int)+(key.length:Int)+1+((Q2 ts).length:Int)+1) (data.size:Int)=((X6 dn).length:Int)+(key.length:Int)+1+((Q2 ts).length:Int)+1:=yY;have hK:(ofL key).size≤maxLen:=(by rw [Q6];unfold maxLen;omega);have hJ:(ofL key).data.toList=key:=(by simp [ofL]);have c1:¬ ((key.length:Int) < 1):=yY;have c2:¬ ((64:Int) < (key.length:Int)):=yY;have c3:¬ ((data.size:Int)≤((X6 dn).length:Int)+(key.length:Int)):=yY;have HN:(X6 dn).length+key.length+1+(Q2 ts).length < data.size:=yY;clear hR hg HF hr Hl hU hC hI hy hw ht Hk hs;generalize ofL (key++61::(Q2 ts++10::X6 td))=u1 at hV CKy;go_upto_region 9 with (go_at_call 148;refine (CS.o _ (by exact X8 HM.o HB.o)).mono ?_;rintro e w1 ⟨rfl,ha⟩;have hi:=zW (HP.o.below ha);have hc:=zW (HS.o.below ha);have hb:=zW (HB.o.trans (ha.mono HB.o.size));clear ha)
      have Hf:=hc.o.look (ofL key) hK;rw [hJ,hv] at Hf;obtain ⟨w2,HI,hn,hl⟩:=hc.o.put (ofL key) hK (Nat.lt_of_le_of_lt hh yX);rw [hJ,←hz.o] at hn;have Hq:=zW (hi.o.map hc.o hl);have Hs:=zW hn;have hM:=zW (hb.o.grown hl hb.o.size (fun j hj=>by injection hj with hj;omega));clear hn hl hJ hv hK hh;go_upto_region 17 with (go_at_call 149;refine (CKy.o _).mono ?_;rintro e w' ⟨rfl,rfl⟩)
      rw [hX];clear Hf HI hV t61 hX;go_upto_region 18 with (go_at_call 150;refine (CE.o _).mono ?_;rintro e w' ⟨rfl,rfl⟩)
      generalize ofL (Q2 ts)=u3 at hY hN;go_wp2_with (first
       | (go_at_call 14;refine (hN.o _).mono ?_;rintro e w3 ⟨v3,rfl,Hh,hB⟩;obtain ⟨A3,c3,rfl⟩:=Q0 Hh;have hS:=zW (Hq.o.below hB);have Ht:=zW (Hs.o.below hB);have Hm:=zW (hM.o.trans (hB.mono hM.o.size));clear Hh hB)
       | (go_at_call 145;refine (HU.o _ _ (by exact hS.o)).mono ?_;rintro e w4 ⟨⟨v4,rfl⟩,lv4,Hj,Ha,Hd⟩;have Hr:=zW Hj;have Hu:=zW (Ht.o.keep hS.o Hd);have Hn:=zW (Hm.o.trans Ha);clear Hj Ha Hd))
      rw [Hv.o];go_roundg td.length
      case measure=>omega
      case rel=>
       refine ⟨dn++[RL.unit key ts],td,hP.o,rfl,⟨lv4,?_⟩,?_,Hn.o,yQ⟩
       ·rw [Ho.o,hA.o];exact Hr.o
       ·rw [show (Z1 (dn++[RL.unit key ts])).length=(Z1 dn).length+1 by rw [hz.o];simp];exact Hu.o
def TbX (gt g:Nat) (data:fY) (rec cols col tx:Nat) (w:World):Prop:=
 w.heap[gt]? =some (.cells #[.string data,.pointer (some ⟨g,0,none⟩),.int .i64 rec,.int .i64 cols,.int .i64 col,.int .i64 tx] 219)
section
variable {gt g:Nat} {data:fY} {rec cols col tx:Nat} {w w':World}
theorem TbX.cells (h:TbX gt g data rec cols col tx w):w.cell? ⟨gt,0,none⟩=some (.string data)∧w.cell? ⟨gt,1,none⟩=some (.pointer (some ⟨g,0,none⟩))∧w.cell? ⟨gt,2,none⟩=some (.int .i64 rec)∧w.cell? ⟨gt,3,none⟩=some (.int .i64 cols)∧w.cell? ⟨gt,4,none⟩=some (.int .i64 col)∧w.cell? ⟨gt,5,none⟩=some (.int .i64 tx):=
 ⟨Z9 (l:=[_,_,_,_,_,_]) h 0 rfl,Z9 (l:=[_,_,_,_,_,_]) h 1 rfl,Z9 (l:=[_,_,_,_,_,_]) h 2 rfl,Z9 (l:=[_,_,_,_,_,_]) h 3 rfl,Z9 (l:=[_,_,_,_,_,_]) h 4 rfl,Z9 (l:=[_,_,_,_,_,_]) h 5 rfl⟩
theorem TbX.frozen (h:TbX gt g data rec cols col tx w) (j:Nat):w.frozen? ⟨gt,j,none⟩=false:=Y6 h j
theorem TbX.gsz (h:TbX gt g data rec cols col tx w):gt < w.heap.size:=(aN.1 h).1
theorem TbX.below (h:TbX gt g data rec cols col tx w) (hb:Below w.heap.size w w'):TbX gt g data rec cols col tx w':=(hb.block gt h.gsz).trans h
theorem TbX.set2 (h:TbX gt g data rec cols col tx w) (n:Nat):TbX gt g data n cols col tx (w.setCell ⟨gt,2,none⟩ (.int .i64 n)):=by
 unfold TbX at h ⊢;rw [D0 h];rfl
theorem TbX.set3 (h:TbX gt g data rec cols col tx w) (n:Nat):TbX gt g data rec n col tx (w.setCell ⟨gt,3,none⟩ (.int .i64 n)):=by
 unfold TbX at h ⊢;rw [D0 h];rfl
theorem TbX.set4 (h:TbX gt g data rec cols col tx w) (n:Nat):TbX gt g data rec cols n tx (w.setCell ⟨gt,4,none⟩ (.int .i64 n)):=by
 unfold TbX at h ⊢;rw [D0 h];rfl
theorem TbX.set5 (h:TbX gt g data rec cols col tx w) (n:Nat):TbX gt g data rec cols col n (w.setCell ⟨gt,5,none⟩ (.int .i64 n)):=by
 unfold TbX at h ⊢;rw [D0 h];rfl
end
theorem Z8d {gt g:Nat} {data:fY} {cols col tx:Nat} {w:World} (h:TbX gt g data 0 cols col tx w) (a b k:Nat) (hab:a≤b) (hb:b≤data.size) (hsz:data.size≤65536) (hk:k≤65536) (hu:(data.extract a b).toList≠C7):
 Calls prog 178 #[.pointer (some ⟨gt,0,none⟩),.int .i64 a,.int .i64 b,.int .i64 k] w (fun e w'=>(∃ v,e=.returned v)∧TbX gt g data 0 (k+1) col tx w'∧Mod (fun i=>i=gt) w w'):=by
 obtain ⟨q0,q1,q2,q3,q4,q5⟩:=h.cells;have y3:=h.frozen 3;have hc:((data.extract a b).toList==[116,101,120,116])=false:=by
  rw [aI];exact hu
 have HS:=zW (h.set3 (k+1));have HM:=zW (Mod.set w gt 3 (.int .i64 ((k+1:Nat):Int)));rw [show ((k+1:Nat):Int)=(k:Int)+1 by omega] at HS HM;have ha:b≤data.size:=hb;clear h hu;go_enter func178,ntmps178
 go_wp2_with fail
 refine fS (eU rfl _ _ _) rfl ?_;exact ⟨⟨_,rfl⟩,HS.o,HM.o⟩
theorem V3b {gt g:Nat} {data:fY} {cols col tx:Nat} {w:World} (h:TbX gt g data 0 cols col tx w) (a b k:Nat) (hab:a≤b) (hb:b≤data.size) (hsz:data.size≤65536) (hk:k≤65536) (htx:tx≤65536) (hu:(data.extract a b).toList=C7):
 Calls prog 178 #[.pointer (some ⟨gt,0,none⟩),.int .i64 a,.int .i64 b,.int .i64 k] w (fun e w'=>(∃ v,e=.returned v)∧TbX gt g data 0 (k+1) k (tx+1) w'∧Mod (fun i=>i=gt) w w'):=by
 obtain ⟨q0,q1,q2,q3,q4,q5⟩:=h.cells;have y3:=h.frozen 3;have y4:=h.frozen 4;have y5:=h.frozen 5;have ha:((data.extract a b).toList==[116,101,120,116])=true:=by
  rw [cM];exact hu
 have h5:=h.set5 (tx+1);have h4:=h5.set4 k;have HS:=zW (h4.set3 (k+1));have HM:=zW (((Mod.set w gt 5 (.int .i64 ((tx+1:Nat):Int))).trans (Mod.set _ gt 4 (.int .i64 (k:Int))) (fun i hi _=>hi)).trans (Mod.set _ gt 3 (.int .i64 ((k+1:Nat):Int))) (fun i hi _=>hi));rw [show ((k+1:Nat):Int)=(k:Int)+1 by omega,show ((tx+1:Nat):Int)=(tx:Int)+1 by omega] at HS HM;rw [show ((tx+1:Nat):Int)=(tx:Int)+1 by omega] at h5 h4;obtain ⟨_,_,_,z3,z4,z5⟩:=h5.cells;obtain ⟨_,_,_,x3,x4,x5⟩:=h4.cells;clear h hu h5 h4;go_enter func178,ntmps178
 go_wp2_with fail
 refine fS (eU rfl _ _ _) rfl ?_;exact ⟨⟨_,rfl⟩,HS.o,HM.o⟩
theorem Y4j {w:World} {b o g:Nat} (h:w.cell? ⟨b,o,none⟩=some (.pointer (some ⟨g,0,none⟩))):(Instr.loadAt 205 (.pointer (some ⟨b,o,none⟩))).run prog w=.ok (.pointer (some ⟨g,0,none⟩)) w:=by
 go_simp
theorem V6a {gt g:Nat} {data:fY} {rec cols col tx:Nat} {w:World} (h:TbX gt g data rec cols col tx w) (a b k:Nat) (q:Bool) (hk:k < cols) (hc:k≠col):
 Calls prog 179 #[.pointer (some ⟨gt,0,none⟩),.int .i64 a,.int .i64 b,.int .i64 k,.bool q] w (fun e w'=>e=.returned (.tuple #[.int .i64 0,.int .i64 0])∧w=w'):=by
 obtain ⟨q0,q1,q2,q3,q4,q5⟩:=h.cells;have t1:¬ ((cols:Int)≤(k:Int)):=yY;have t2:((k:Int)==(col:Int))=false:=(by rw [aI];omega);have t3:((k:Int) != (col:Int))=true:=(by rw [dZ];omega);clear h;go_enter func179,ntmps179
 go_wp2_with fail
 go_ret2
 exact ⟨rfl,rfl⟩
theorem U0c {B gt g:Nat} {data:fY} {rec cols col tx fr:Nat} {lv:Value} {ps:List Pt} {w:World} (h:TbX gt g data rec cols col tx w) (hp:PsB B g data fr lv ps w) (hgg:gt≠g) (a b b1:Nat) (ts:Els)
 (hb1:b=b1+1) (hts:data.extract (a+1) b1=ofL (Q2 ts)) (hraw:RawOk 3 ts) (hfr:fr≤a+1) (hab:a+1≤b1) (hb:b≤data.size) (hsz:data.size≤65536) (hrec:rec < 100) (hcol:col < cols) (hps:ps.length≤100000):
 Calls prog 179 #[.pointer (some ⟨gt,0,none⟩),.int .i64 a,.int .i64 b,.int .i64 col,.bool true] w (fun e w'=>e=.returned (.tuple #[.int .i64 0,.int .i64 0])∧(∃ lv',PsB B g data b1 lv' (ps++[⟨false,ofL [],data.extract fr (a+1)⟩,⟨true,ofL (Lib.decDigits rec),ofL (Q2 ts)⟩]) w')∧TbX gt g data rec cols col tx w'∧Below B w w'):=by
 obtain ⟨q0,q1,q2,q3,q4,q5⟩:=h.cells;have hk:=zW (fun W=>X2p (ofL (Q2 ts)) ts W ⟨by simp [ofL],hraw.els,hraw.len,by rw [←hts,cJ];omega⟩);have HU:=zW (fun (w':World) (h:PsB B g data fr lv ps w')=>X4u (a+1) b1 (ofL (Lib.decDigits rec)) h hfr hab yY yY yY);rw [hts,show (⟨#[]⟩:fY)=ofL [] from rfl,show ((a+1:Nat):Int)=(a:Int)+1 by omega] at HU;have hf:=zW (fun w=>Tryz.strconv_Itoa_small rec hrec w);rw [show (⟨(Lib.decDigits rec).toArray⟩:fY)=ofL (Lib.decDigits rec) from rfl] at hf;have HT:=zW h;have HP:=zW hp;have hi:=zW (Y1 hp.own h yX);have t1:¬ ((cols:Int)≤(col:Int)):=yY;have t2:((col:Int)==(col:Int))=true:=yW;have t3:((col:Int) != (col:Int))=false:=yW;have e1:(b:Int) - 1=(b1:Int):=yY;have hm:b1≤data.size:=yY;have hn:(b:Int)≤65536:=yY;clear h hp hraw hb1;generalize ofL (Q2 ts)=u3 at hts hk HU;go_enter func179,ntmps179
 go_upto_region 8 with (go_at_call 15;refine (hk.o _).mono ?_;rintro e w3 ⟨v3,rfl,hl,hg⟩;obtain ⟨A3,c3,rfl⟩:=Q0 hl;have ha:=zW (HT.o.below hg);have hj:=zW (HP.o.below hg);have hh:=zW (hg.mono (aP HP.o.lt (cS HP.o.gsz)));clear hl hg)
 have ew1:IntKind.i64.wrap ((a:Int)+1)=(a:Int)+1:=(by rw [cQ];omega);have ew2:IntKind.i64.wrap ((b:Int) - 1)=(b1:Int):=(by rw [cQ];omega);have ew3:IntKind.i64.wrap (b1:Int)=(b1:Int):=(by rw [cQ];omega);obtain ⟨_,z1,z2,_,_,_⟩:=ha.o.cells
 -- REGION
 refine zqR (l0:=#[false,false,false,false,false,false,false,false,false,false,false,false,false,false]) 14 rfl ?_;refine zqM 0 61 (.pointer (some ⟨gt,0,none⟩)) rfl ?_;refine zzA 1 (.pointer (some ⟨gt,0,none⟩)) (some 62) rfl (fun _=>Q6u _ _ rfl yZ) ?_;refine zqF 2 63 (.pointer (some ⟨gt,1,none⟩)) rfl rfl (.pointer (some ⟨gt,0,none⟩)) ?_;refine zqM 4 65 (.int .i64 (a:Int)) rfl ?_;refine zqB 5 66 (.int .i64 ((a:Int)+1)) rfl rfl (.int .i64 (a:Int)) (.int .i64 1) ?_;refine zqM 6 67 (.int .i64 (b:Int)) rfl ?_;refine zqB 7 68 (.int .i64 (b1:Int)) rfl rfl (.int .i64 (b:Int)) (.int .i64 1) ?_;refine zqM 8 69 (.pointer (some ⟨gt,0,none⟩)) rfl ?_;refine zzA 9 (.pointer (some ⟨gt,0,none⟩)) (some 70) rfl (fun _=>Q6u _ _ rfl yZ) ?_;refine zqF 10 71 (.pointer (some ⟨gt,2,none⟩)) rfl rfl (.pointer (some ⟨gt,0,none⟩)) ?_;simp only [Act.put,zZ,zY,zX];refine zqt 3 11 rfl rfl ?_ ?_
 ·refine zqL (.pointer (some ⟨g,0,none⟩)) rfl (.pointer (some ⟨gt,1,none⟩)) (Y4j (w:=w3.drew) z1) ?_;simp only [Act.put,zZ,zY,zX];refine zqo 11 rfl ?_;refine zqL (.int .i64 (rec:Int)) rfl (.pointer (some ⟨gt,2,none⟩)) (F3 (w:=w3.drew) z2) ?_;simp only [Act.put,zZ,zY,zX];refine zqo 12 rfl ?_;refine Q1r (.int .i64 (rec:Int)) rfl func146 (hf.o _) ?_;rintro e w' ⟨rfl,rfl⟩;refine ⟨.string (ofL (Lib.decDigits rec)),rfl,?_⟩;simp only [Act.put,zZ,zY,zX];refine zqo 13 rfl ?_;refine J1 (X7p (.tmp 64) (.tmp 66) (.tmp 68) (.tmp 73) _ (.pointer (some ⟨g,0,none⟩)) (.int .i64 ((a:Int)+1)) (.int .i64 (b1:Int)) (.string (ofL (Lib.decDigits rec))) rfl yZ yZ yZ yZ (enters_of func145 yZ rfl _ _)) (HU.o _ hj.o.drew) ?_;rintro e w4 ⟨⟨v4,rfl⟩,lv4,hp4,hb4,hk4⟩;refine ⟨v4,rfl,?_⟩;simp only [Act.put,zZ,zY,zX];refine bW yZ ?_ _;have hd:=zW hp4;have he:yK (TbX gt g data rec cols col tx w4):=(hk4 gt ha.o.gsz hgg (fun e=>hi.o gt e rfl)).trans ha.o;have hc:=zW ((hh.o.drew).trans hb4);clear hp4 hb4 hk4;go_wp2_with fail
  go_ret2
  exact ⟨rfl,⟨lv4,hd.o⟩,he.o,hc.o⟩
 ·refine zqL (.int .i64 (rec:Int)) rfl (.pointer (some ⟨gt,2,none⟩)) (F3 (w:=w3.drew) z2) ?_;simp only [Act.put,zZ,zY,zX];refine zqt 3 12 rfl rfl ?_ ?_
  ·refine zqL (.pointer (some ⟨g,0,none⟩)) rfl (.pointer (some ⟨gt,1,none⟩)) (Y4j (w:=w3.drew) z1) ?_;simp only [Act.put,zZ,zY,zX];refine zqo 12 rfl ?_;refine Q1r (.int .i64 (rec:Int)) rfl func146 (hf.o _) ?_;rintro e w' ⟨rfl,rfl⟩;refine ⟨.string (ofL (Lib.decDigits rec)),rfl,?_⟩;simp only [Act.put,zZ,zY,zX];refine zqo 13 rfl ?_;refine J1 (X7p (.tmp 64) (.tmp 66) (.tmp 68) (.tmp 73) _ (.pointer (some ⟨g,0,none⟩)) (.int .i64 ((a:Int)+1)) (.int .i64 (b1:Int)) (.string (ofL (Lib.decDigits rec))) rfl yZ yZ yZ yZ (enters_of func145 yZ rfl _ _)) (HU.o _ hj.o.drew) ?_;rintro e w4 ⟨⟨v4,rfl⟩,lv4,hp4,hb4,hk4⟩;refine ⟨v4,rfl,?_⟩;simp only [Act.put,zZ,zY,zX];refine bW yZ ?_ _;have hd:=zW hp4;have he:yK (TbX gt g data rec cols col tx w4):=(hk4 gt ha.o.gsz hgg (fun e=>hi.o gt e rfl)).trans ha.o;have hc:=zW ((hh.o.drew).trans hb4);clear hp4 hb4 hk4;go_wp2_with fail
   go_ret2
   exact ⟨rfl,⟨lv4,hd.o⟩,he.o,hc.o⟩
  ·refine Q1r (.int .i64 (rec:Int)) rfl func146 (hf.o _) ?_;rintro e w' ⟨rfl,rfl⟩;refine ⟨.string (ofL (Lib.decDigits rec)),rfl,?_⟩;simp only [Act.put,zZ,zY,zX];refine zqo 3 rfl ?_;refine zqL (.pointer (some ⟨g,0,none⟩)) rfl (.pointer (some ⟨gt,1,none⟩)) (Y4j (w:=w3.drew) z1) ?_;simp only [Act.put,zZ,zY,zX];refine zqo 13 rfl ?_;refine J1 (X7p (.tmp 64) (.tmp 66) (.tmp 68) (.tmp 73) _ (.pointer (some ⟨g,0,none⟩)) (.int .i64 ((a:Int)+1)) (.int .i64 (b1:Int)) (.string (ofL (Lib.decDigits rec))) rfl yZ yZ yZ yZ (enters_of func145 yZ rfl _ _)) (HU.o _ hj.o.drew) ?_;rintro e w4 ⟨⟨v4,rfl⟩,lv4,hp4,hb4,hk4⟩;refine ⟨v4,rfl,?_⟩;simp only [Act.put,zZ,zY,zX];refine bW yZ ?_ _;have hd:=zW hp4;have he:yK (TbX gt g data rec cols col tx w4):=(hk4 gt ha.o.gsz hgg (fun e=>hi.o gt e rfl)).trans ha.o;have hc:=zW ((hh.o.drew).trans hb4);clear hp4 hb4 hk4;go_wp2_with fail
   go_ret2
   exact ⟨rfl,⟨lv4,hd.o⟩,he.o,hc.o⟩
 -- END
def pjC (l:List Fd):List UInt8:=l.flatMap fun f=>f.raw++[44]
theorem X8w (l:List Fd) (f:Fd):pjC (l++[f])=pjC l++(f.raw++[44]):=by simp [pjC]
theorem Q2d:∀ (a b:List Fd),b≠[]→K3 (a++b)=pjC a++K3 b
 | [],b,_=>rfl
 | f::a,b,h=>by
   rw [aR,Q2w f _ (by simp [h]),Q2d a b h];simp [pjC]
theorem V8z (a:List Fl):pjC (a.map Y0o)=G0 a:=by
 unfold pjC G0;rw [List.flatMap_map];congr 1;funext f;rw [Q6v]
def X1l (td:List Fd) (rest:List UInt8):List UInt8:=if td=[] then rest else 44::(K3 td++rest)
theorem Y7l (rest:List UInt8):X1l [] rest=rest:=rfl
theorem X3t (g:Fd) (td:List Fd) (rest:List UInt8):X1l (g::td) rest=44::(K3 (g::td)++rest):=rfl
theorem Y7t (f:Fd) (td:List Fd) (rest:List UInt8):K3 (f::td)++rest=f.raw++X1l td rest:=by
 cases td with
 | nil=>rfl
 | cons g td=>rw [Q2w f _ yW,X3t];simp
def Q9o (rest:List UInt8):Prop:=rest=[]∨∃ r,rest=10::r
theorem Y7k (td:List Fd) (rest:List UInt8) (h:Q9o rest):FdEnd (X1l td rest):=by
 cases td with
 | nil=>
   rcases h with rfl | ⟨r,rfl⟩
   ·exact .inl rfl
   ·exact .inr ⟨10,r,rfl,.inr rfl⟩
 | cons g td=>exact .inr ⟨44,_,rfl,.inl rfl⟩
theorem V8b {gt g:Nat} {data:fY} {cols col tx:Nat} {w:World} (h:TbX gt g data 0 cols col tx w) (a b k c' t':Nat) (raw:List UInt8) (hab:a≤b) (hb:b≤data.size) (hsz:data.size≤65536) (hk:k≤65536) (htx:tx≤65536) (hx:data.extract a b=ofL raw)
 (hu:(raw=C7∧c'=k∧t'=tx+1)∨(raw≠C7∧c'=col∧t'=tx)):
 Calls prog 178 #[.pointer (some ⟨gt,0,none⟩),.int .i64 a,.int .i64 b,.int .i64 k] w (fun e w'=>(∃ v,e=.returned v)∧TbX gt g data 0 (k+1) c' t' w'∧Mod (fun i=>i=gt) w w'):=by
 rcases hu with ⟨h1,rfl,rfl⟩ | ⟨h1,rfl,rfl⟩
 ·exact V3b h a b c' hab hb hsz hk htx (by rw [hx,I7];exact h1)
 ·exact Z8d h a b k hab hb hsz hk (by rw [hx,I7];exact h1)
def hcN (tcol k:Nat):Nat:=if tcol < k then tcol else 0
def htN (tcol k:Nat):Nat:=if tcol < k then 1 else 0
theorem V3c (fs:List Fd) (tcol k:Nat) (f:Fd) (h:fs[k]? =some f) (ht:fs[tcol]? =some X7r) (ho:∀ i f,fs[i]? =some f→i≠tcol→f.raw≠C7):
 (f.raw=C7∧hcN tcol (k+1)=k∧htN tcol (k+1)=htN tcol k+1)∨(f.raw≠C7∧hcN tcol (k+1)=hcN tcol k∧htN tcol (k+1)=htN tcol k):=by
 unfold hcN htN;by_cases hk:k=tcol
 ·subst hk;rw [ht] at h;injection h with h;left;subst h;exact ⟨rfl,by rw [aK yY],by rw [aK yY,aE yY]⟩
 ·right;refine ⟨ho k f h hk,?_,?_⟩
  ·by_cases h1:tcol < k
   ·rw [aK h1,aK yY]
   ·rw [aE h1,aE yY]
  ·by_cases h1:tcol < k
   ·rw [aK h1,aK yY]
   ·rw [aE h1,aE yY]
theorem Z8e {gt g:Nat} (data:fY) (fs:List Fd) (rest:List UInt8) (tcol:Nat) (w:World) (h:TbX gt g data 0 0 0 0 w) (hd:data.data.toList=K3 fs++rest) (hne:fs≠[]) (hr:Q9o rest) (hf:∀ f∈fs,X6q f) (ht:fs[tcol]? =some X7r) (ho:∀ i f,fs[i]? =some f→i≠tcol→f.raw≠C7) (hsz:data.size≤65536) (hfl:fs.length≤100):
 Calls prog 151 #[.pointer (some ⟨gt,0,none⟩),.int .i64 0] w (fun e w'=>e=.returned (.tuple #[.int .i64 (min (((K3 fs).length:Int)+1) (data.size:Int)),.int .i64 0])∧TbX gt g data 0 fs.length tcol 1 w'∧Mod (fun i=>i=gt) w w'):=by
 obtain ⟨R,hq⟩:∃ R:Ending→World→Prop,yK (R=fun e w'=>e=.returned (.tuple #[.int .i64 (min (((K3 fs).length:Int)+1) (data.size:Int)),.int .i64 0])∧TbX gt g data 0 fs.length tcol 1 w'∧Mod (fun i=>i=gt) w w'):=⟨_,rfl⟩;rw [←hq.o];have HT:=zW h;have HD:=zW hd;have hv:=zW hr;have HF:=zW hf;have hI:=zW ht;have HO:=zW ho;have hm:tcol < fs.length:=(aM.1 ht).1;clear h hd hr hf ht ho;go_enter func151,ntmps151
 go_wp2_with fail
 go_loopg [6,7] (fs.length+1) (fun gk av cv wr=>∃ dn td,yK (fs=dn++td)∧td≠[]∧av=.int .i64 ((pjC dn).length:Nat)∧cv=.int .i64 (dn.length:Nat)∧yK (TbX gt g data 0 dn.length (hcN tcol dn.length) (htN tcol dn.length) wr)∧yK (Mod (fun i=>i=gt) w wr)∧td.length≤gk)
 case atStart=>exact ⟨[],fs,rfl,hne,rfl,rfl,HT.o,Mod.refl _ _,Nat.le_succ _⟩
 case round=>
  obtain ⟨dn,td,HE,hL,rfl,rfl,hx,HM,hgk⟩:=hrel;clear HT;cases td with
  | nil=>exact absurd rfl hL
  | cons f td=>
    have hA:fs[dn.length]? =some f:=(by rw [HE.o,bF yQ,cZ];rfl);have hl:dn.length+1+td.length=fs.length:=(by rw [HE.o];simp;omega);have hj:data.data.toList=pjC dn++(f.raw++X1l td rest):=(by rw [HD.o,HE.o,Q2d _ _ yW,aZ,Y7t]);have ha:data.size=(pjC dn).length+(f.raw.length+(X1l td rest).length):=(by rw [aC,hj];simp);have hz:f∈fs:=(by rw [HE.o];simp);have CF:=zW (fun W=>V2r data (pjC dn) (X1l td rest) f W hj (HF.o f hz) (Y7k td rest hv.o) hsz);have hk:data.extract (pjC dn).length ((pjC dn).length+f.raw.length)=ofL f.raw:=T0 data (pjC dn) f.raw (X1l td rest) _ (by rw [hj];simp) rfl;have hg:=V3c fs tcol dn.length f hA hI.o HO.o;have hD:htN tcol dn.length≤65536:=by unfold htN;split<;>omega
    have CH:=zW (fun W (hW:TbX gt g data 0 dn.length (hcN tcol dn.length) (htN tcol dn.length) W)=>V8b hW (pjC dn).length ((pjC dn).length+f.raw.length) dn.length (hcN tcol (dn.length+1)) (htN tcol (dn.length+1)) f.raw yY yY hsz yY hD hk hg);obtain ⟨q0,q1,q2,q3,q4,q5⟩:=hx.o.cells;obtain ⟨N,hN⟩:∃ N,N=(pjC dn).length+f.raw.length:=⟨_,rfl⟩;rw [←hN] at CF CH;have hh:=zW hN;have hM:N≤data.size:=yY;have hn:yK ((K3 fs).length=(pjC dn).length+(K3 (f::td)).length):=(by show _=_;rw [HE.o,Q2d _ _ yW,aA]);have he:=zW (M5 data (pjC dn++f.raw) (X1l td rest) (by rw [hj];simp));have hi:=zW ha;clear hg hk hj ha hA hN hD hz;go_upto_region 4 with (go_at_call 177;refine (CF.o _).mono ?_;rintro e w1 ⟨rfl,hu⟩;have hw:=zW (hx.o.below hu);have hF:=zW (HM.o.trans (Mod.of_below hu) (fun _ h=>h.elim));clear hu)
    obtain ⟨z0,z1,z2,z3,z4,z5⟩:=hw.o.cells;clear q0 q1 q2 q3 q4 q5;go_upto_region 11 with (go_at_call 178;refine (CH.o _ (by exact hw.o)).mono ?_;rintro e w2 ⟨⟨v2,rfl⟩,hC,hB⟩;have hb:=zW hC;have hp:=zW (hF.o.trans hB (fun i h _=>h));clear hC hB)
    cases td with
    | nil=>
      have hJ:yK ((K3 fs).length=N):=(by show _=_;rw [hn.o,hh.o];rfl);have ha:=hi.o;rw [Y7l] at ha he;rcases hv.o with hr | ⟨r,hr⟩
      ·have hy:((N:Int)==(data.size:Int))=true:=(by rw [hr] at ha;simp at ha;rw [cM];have:=hh.o;omega);clear ha;have ef:dn.length+1=fs.length:=(by simp at hl;omega);rw [ef] at hb;rw [show hcN tcol fs.length=tcol from aK hm,show htN tcol fs.length=1 from aK hm] at hb;obtain ⟨x0,x1,x2,x3,x4,x5⟩:=hb.o.cells;clear z0 z1 z2 z3 z4 z5 CH CF;go_wp2_with fail
       first | go_ret2 | skip
       rw [hq.o];refine ⟨?_,hb.o,hp.o⟩;rw [hJ.o];rfl
      ·have hs:N < data.size:=(by rw [hr] at ha;simp at ha;have:=hh.o;omega);have hy:((N:Int)==(data.size:Int))=false:=(by rw [aI];omega);have hc:=he.o 0 N (by rw [hr];simp) (by rw [hh.o];simp) hs;have e10:((data[N].toNat:Int)==10)=true:=(by rw [hc];simp only [hr];rfl);clear ha hc;have ef:dn.length+1=fs.length:=(by simp at hl;omega);rw [ef] at hb;rw [show hcN tcol fs.length=tcol from aK hm,show htN tcol fs.length=1 from aK hm] at hb;obtain ⟨x0,x1,x2,x3,x4,x5⟩:=hb.o.cells;clear z0 z1 z2 z3 z4 z5 CH CF;go_wp2_with fail
       first | go_ret2 | skip
       rw [hq.o];refine ⟨?_,hb.o,hp.o⟩;rw [hJ.o];rfl
    | cons g2 td=>
      have ha:=hi.o;rw [X3t] at ha he;have hs:N < data.size:=(by simp at ha;have:=hh.o;omega);have hy:((N:Int)==(data.size:Int))=false:=(by rw [aI];omega);have hc:=he.o 0 N yW (by rw [hh.o];simp) hs;have e10:((data[N].toNat:Int)==10)=false:=(by rw [hc];rfl);obtain ⟨x0,x1,x2,x3,x4,x5⟩:=hb.o.cells;have hG:yK ((N:Int)+1=((pjC (dn++[f])).length:Nat)):=(by show _=_;rw [X8w,aA,aA,hh.o];simp;omega);have hH:yK ((dn.length:Int)+1=((dn++[f]).length:Nat)):=(by show _=_;simp);have hE:yK (fs=dn++[f]++(g2::td)):=(by show _=_;rw [HE.o];simp);have hK:td.length+2≤gk:=(by simpa using hgk);clear z0 z1 z2 z3 z4 z5 CH CF ha hc;go_wp2_with fail
      rw [hG.o,hH.o];go_roundg (td.length+1)
      case measure=>omega
      case rel=>
       refine ⟨dn++[f],g2::td,hE.o,by simp,rfl,rfl,?_,hp.o,by simp⟩;rw [show (dn++[f]).length=dn.length+1 by simp];exact hb.o
def X0f {α:Type} (tcol k:Nat) (x y:α):α:=if tcol < k then x else y
theorem X6l {α:Type} (k:Nat) (x y:α):X0f k k x y=y∧X0f k (k+1) x y=x:=⟨aE yY,aK yY⟩
theorem Z6o {α:Type} (tcol k:Nat) (x y:α) (h:k≠tcol):X0f tcol (k+1) x y=X0f tcol k x y:=by
 unfold X0f;by_cases h1:tcol < k
 ·rw [aK h1,aK yY]
 ·rw [aE h1,aE yY]
theorem Y2v {α:Type} (tcol:Nat) (x y:α):X0f tcol 0 x y=y:=aE yY
theorem X2n {α:Type} (tcol n:Nat) (x y:α) (h:tcol < n):X0f tcol n x y=x:=aK h
theorem U2k {B gt g:Nat} {data:fY} {rec cols tx fr0:Nat} {lv:Value} {ps0:List Pt} {w:World} (tcol k p:Nat) (f:Fd) (ts:Els) (fr1:Nat) (ps1:List Pt)
 (h:TbX gt g data rec cols tcol tx w) (hp:PsB B g data (X0f tcol k fr1 fr0) lv (X0f tcol k ps1 ps0) w) (hgg:gt≠g)
 (hf:k=tcol→f=Y7g ts) (hk:k < cols) (pre s:List UInt8) (hd:data.data.toList=pre++(f.raw++s)) (hp0:p=pre.length) (hraw:RawOk 3 ts) (hfr:fr0≤p+1)
 (h1:k=tcol→fr1=p+1+(Q2 ts).length∧ps1=ps0++[⟨false,ofL [],data.extract fr0 (p+1)⟩,⟨true,ofL (Lib.decDigits rec),ofL (Q2 ts)⟩])
 (hsz:data.size≤65536) (hrec:rec < 100) (hps:ps0.length≤100000):
 Calls prog 179 #[.pointer (some ⟨gt,0,none⟩),.int .i64 p,.int .i64 ((p+f.raw.length:Nat):Int),.int .i64 k,.bool f.quo] w (fun e w'=>e=.returned (.tuple #[.int .i64 0,.int .i64 0])∧(∃ lv',PsB B g data (X0f tcol (k+1) fr1 fr0) lv' (X0f tcol (k+1) ps1 ps0) w')∧TbX gt g data rec cols tcol tx w'∧Below B w w'):=by
 by_cases e:k=tcol
 ·subst e;obtain ⟨h1,h2⟩:=h1 rfl;have hf:=hf rfl;subst hf;rw [(X6l k fr1 fr0).1,(X6l k ps1 ps0).1] at hp;rw [(X6l k fr1 fr0).2,(X6l k ps1 ps0).2];have hl:(Y7g ts).raw.length=(Q2 ts).length+2:=(by simp [Y7g]);have ha:data.data.toList=pre++[34]++Q2 ts++(34::s):=(by rw [hd];simp [Y7g]);have hc:data.extract (p+1) (p+1+(Q2 ts).length)=ofL (Q2 ts):=by
   have:=T0 data (pre++[34]) (Q2 ts) (34::s) (p+1+(Q2 ts).length) ha (by rw [aA,hp0];rfl);rwa [aA,←hp0] at this
  have hb:p+((Q2 ts).length+2)≤data.size:=(by rw [aC,ha,hp0];simp);have ht:=U0c h hp hgg p (p+((Q2 ts).length+2)) (p+1+(Q2 ts).length) ts yY hc hraw hfr yY hb hsz hrec hk hps;rw [←hl] at ht;refine ht.mono ?_;rintro e w' ⟨h3,h4,h5,h6⟩;rw [h1,h2];exact ⟨h3,h4,h5,h6⟩
 ·refine (V6a h p (p+f.raw.length) k f.quo hk e).mono ?_;rintro e' w' ⟨h3,rfl⟩;rw [Z6o _ _ _ _ e,Z6o _ _ _ _ e];exact ⟨h3,⟨lv,hp⟩,h,aB _ _⟩
theorem V0a {B gt g:Nat} (data:fY) (pre0:List UInt8) (fs:List Fd) (rest:List UInt8) (tcol:Nat) (ts:Els) (rec fr0:Nat) (lv0:Value) (ps0:List Pt) (w:World) (h:TbX gt g data rec fs.length tcol 1 w) (hp:PsB B g data fr0 lv0 ps0 w) (hgg:gt≠g)
 (hd:data.data.toList=pre0++(K3 fs++rest)) (hne:fs≠[]) (hr:Q9o rest) (hf:∀ f∈fs,X6q f) (ht:fs[tcol]? =some (Y7g ts)) (hraw:RawOk 3 ts) (hfr:fr0≤pre0.length) (hrec1:1≤rec) (hrec:rec < 100) (hsz:data.size≤65536) (hfl:fs.length≤100) (hps:ps0.length≤100000):
 Calls prog 151 #[.pointer (some ⟨gt,0,none⟩),.int .i64 (pre0.length:Nat)] w (fun e w'=>e=.returned (.tuple #[.int .i64 (min (((pre0++K3 fs).length:Int)+1) (data.size:Int)),.int .i64 0])∧TbX gt g data rec fs.length tcol 1 w'∧(∃ lv',PsB B g data (pre0.length+(pjC (fs.take tcol)).length+1+(Q2 ts).length) lv' (ps0++[⟨false,ofL [],data.extract fr0 (pre0.length+(pjC (fs.take tcol)).length+1)⟩,⟨true,ofL (Lib.decDigits rec),ofL (Q2 ts)⟩]) w')∧Below B w w'):=by
 generalize hfr1:pre0.length+(pjC (fs.take tcol)).length+1+(Q2 ts).length=fr1;generalize hps1:ps0++[(⟨false,ofL [],data.extract fr0 (pre0.length+(pjC (fs.take tcol)).length+1)⟩:Pt),⟨true,ofL (Lib.decDigits rec),ofL (Q2 ts)⟩]=ps1;obtain ⟨R,hs⟩:∃ R:Ending→World→Prop,yK (R=fun e w'=>e=.returned (.tuple #[.int .i64 (min (((pre0++K3 fs).length:Int)+1) (data.size:Int)),.int .i64 0])∧TbX gt g data rec fs.length tcol 1 w'∧(∃ lv',PsB B g data fr1 lv' ps1 w')∧Below B w w'):=⟨_,rfl⟩;rw [←hs.o];have HT:=zW h;have HP:=zW hp;have HD:=zW hd;have hx:=zW hr;have HF:=zW hf;have hR:=zW ht;have hI:=zW hfr1;have hK:=zW hps1;have hM:=zW hraw;have hm:tcol < fs.length:=(aM.1 ht).1;have hS:B≤w.heap.size:=aP hp.lt (cS hp.gsz);have Ha:¬ ((rec:Int)≤0):=yY;have hZ:(0:Int) < (rec:Int):=yY;have hV:((rec:Int)==0)=false:=(by rw [aI];omega);clear h hd hr hf ht hp hfr1 hps1 hraw;go_enter func151,ntmps151
 go_wp2_with fail
 go_loopg [6,7] (fs.length+1) (fun gk av cv wr=>∃ dn td p,yK (fs=dn++td)∧td≠[]∧av=.int .i64 (p:Nat)∧yK (p=(pre0++pjC dn).length)∧cv=.int .i64 (dn.length:Nat)∧yK (TbX gt g data rec fs.length tcol 1 wr)∧(∃ lv,yK (PsB B g data (X0f tcol dn.length fr1 fr0) lv (X0f tcol dn.length ps1 ps0) wr))∧yK (Below B w wr)∧td.length≤gk)
 case atStart=>exact ⟨[],fs,pre0.length,rfl,hne,rfl,by (show _=_);simp [pjC],rfl,HT.o,⟨lv0,by rw [eB,Y2v,Y2v];exact HP.o⟩,aB _ _,Nat.le_succ _⟩
 case round=>
  obtain ⟨dn,td,p,HE,hX,rfl,hw,rfl,hz,⟨lv,hL⟩,HB,hgk⟩:=hrel;clear HT HP;cases td with
  | nil=>exact absurd rfl hX
  | cons f td=>
    have hv:fs[dn.length]? =some f:=(by rw [HE.o,bF yQ,cZ];rfl);have hk:dn.length+1+td.length=fs.length:=(by rw [HE.o];simp;omega);have hj:data.data.toList=(pre0++pjC dn)++(f.raw++X1l td rest):=(by rw [HD.o,HE.o,Q2d _ _ yW,aZ,Y7t,aZ]);have ha:data.size=(pre0++pjC dn).length+(f.raw.length+(X1l td rest).length):=(by rw [aC,hj];simp;omega);have hC:f∈fs:=(by rw [HE.o];simp);have CF:=zW (fun W=>V2r data (pre0++pjC dn) (X1l td rest) f W hj (HF.o f hC) (Y7k td rest hx.o) hsz);have hF:dn.length=tcol→dn=fs.take tcol:=fun e=>by rw [HE.o,←e,eH]
    have CH:=zW (fun lv W (hW:TbX gt g data rec fs.length tcol 1 W) (hP:PsB B g data (X0f tcol dn.length fr1 fr0) lv (X0f tcol dn.length ps1 ps0) W)=>U2k tcol dn.length (pre0++pjC dn).length f ts fr1 ps1 hW hP hgg (fun e=>by rw [e] at hv;exact eA (hv.symm.trans hR.o)) yY (pre0++pjC dn) (X1l td rest) hj rfl hM.o (by rw [aA];omega) (fun e=>by
     rw [←hI.o,←hK.o,←hF e,aA];exact ⟨rfl,rfl⟩) hsz hrec hps)
    obtain ⟨q0,q1,q2,q3,q4,q5⟩:=hz.o.cells;rw [←hw.o] at CF CH;obtain ⟨N,hN⟩:∃ N,N=p+f.raw.length:=⟨_,rfl⟩;rw [←hN] at CF CH;rw [hw.o] at hN;have he:=zW hN;have hY:N≤data.size:=yY;have ho:yK ((pre0++K3 fs).length=(pre0++pjC dn).length+(K3 (f::td)).length):=(by show _=_;rw [HE.o,Q2d _ _ yW,aA,aA,aA,dO]);have hb:=zW (M5 data (pre0++pjC dn++f.raw) (X1l td rest) (by rw [hj];simp));have hh:=zW ha;clear hj ha hv hN hC hF;go_upto_region 4 with (go_at_call 177;refine (CF.o _).mono ?_;rintro e w1 ⟨rfl,hl⟩;have hy:=zW (hz.o.below hl);have hq:=zW (hL.o.below hl);have hG:=zW (HB.o.trans (hl.mono (aP hS HB.o.size)));clear hl)
    obtain ⟨z0,z1,z2,z3,z4,z5⟩:=hy.o.cells;clear q0 q1 q2 q3 q4 q5;go_upto_region 11 with (go_at_call 179;refine (CH.o _ _ (by exact hy.o) (by exact hq.o)).mono ?_;rintro e w2 ⟨rfl,⟨lv2,hD⟩,hE,hA⟩;have hg:=zW hE;have hi:=zW hD;have hn:=zW (hG.o.trans hA);clear hE hD hA)
    cases td with
    | nil=>
      have hJ:yK ((pre0++K3 fs).length=N):=(by show _=_;rw [ho.o,he.o];rfl);have ha:=hh.o;rw [Y7l] at ha hb;rcases hx.o with hr | ⟨r,hr⟩
      ·have hB:((N:Int)==(data.size:Int))=true:=(by rw [hr] at ha;simp only [eB] at ha;rw [cM];have:=he.o;omega);clear ha;have ef:dn.length+1=fs.length:=(by simp at hk;omega);rw [ef,X2n _ _ _ _ hm,X2n _ _ _ _ hm] at hi;obtain ⟨x0,x1,x2,x3,x4,x5⟩:=hg.o.cells;have hT:¬ ((dn.length:Int)+1 < (fs.length:Int)):=yY;clear z0 z1 z2 z3 z4 z5 CH CF;go_wp2_with fail
       first | go_ret2 | skip
       rw [hs.o];refine ⟨?_,hg.o,⟨lv2,hi.o⟩,hn.o⟩;rw [hJ.o];try rfl
      ·have hu:N < data.size:=(by rw [hr] at ha;simp only [aG] at ha;have:=he.o;omega);have hB:((N:Int)==(data.size:Int))=false:=(by rw [aI];omega);have hc:=hb.o 0 N (by rw [hr];simp) (by have:=he.o;simp only [aA] at this ⊢;omega) hu;have e10:((data[N].toNat:Int)==10)=true:=(by rw [hc];simp only [hr];rfl);clear ha hc;have ef:dn.length+1=fs.length:=(by simp at hk;omega);rw [ef,X2n _ _ _ _ hm,X2n _ _ _ _ hm] at hi;obtain ⟨x0,x1,x2,x3,x4,x5⟩:=hg.o.cells;have hT:¬ ((dn.length:Int)+1 < (fs.length:Int)):=yY;clear z0 z1 z2 z3 z4 z5 CH CF;go_wp2_with fail
       first | go_ret2 | skip
       rw [hs.o];refine ⟨?_,hg.o,⟨lv2,hi.o⟩,hn.o⟩;rw [hJ.o];try rfl
    | cons g2 td=>
      have ha:=hh.o;rw [X3t] at ha hb;have hu:N < data.size:=(by simp only [aG] at ha;have:=he.o;omega);have hB:((N:Int)==(data.size:Int))=false:=(by rw [aI];omega);have hc:=hb.o 0 N yW (by have:=he.o;simp only [aA] at this ⊢;omega) hu;have e10:((data[N].toNat:Int)==10)=false:=(by rw [hc];rfl);obtain ⟨x0,x1,x2,x3,x4,x5⟩:=hg.o.cells;have hO:yK (N+1=(pre0++pjC (dn++[f])).length):=(by show _=_;have:=he.o;rw [X8w];simp only [aA,bZ] at this ⊢;omega);have hQ:yK ((dn.length:Int)+1=((dn++[f]).length:Nat)):=(by show _=_;simp);have hH:yK (fs=dn++[f]++(g2::td)):=(by show _=_;rw [HE.o];simp);have hU:td.length+2≤gk:=(by simpa using hgk);clear z0 z1 z2 z3 z4 z5 CH CF ha hc;go_wp2_with fail
      rw [hQ.o,show (N:Int)+1=((N+1:Nat):Int) from rfl];go_roundg (td.length+1)
      case measure=>omega
      case rel=>
       refine ⟨dn++[f],g2::td,N+1,hH.o,by simp,rfl,hO.o,rfl,hg.o,⟨lv2,?_⟩,hn.o,by simp⟩;rw [show (dn++[f]).length=dn.length+1 by simp];exact hi.o
def U9 (a b:List Fl) (rs:List Rc):List UInt8:=I6 a b++rs.flatMap fun r=>10::Q7o r
def P4 (rs:List Rc) (tl:List UInt8):List UInt8:=(rs.flatMap fun r=>10::Q7o r)++tl
theorem Q4s (a b:List Fl) (dn td:List Rc) (tl:List UInt8):U9 a b (dn++td)++tl=U9 a b dn++P4 td tl:=by simp [U9,P4]
theorem X0e (a b:List Fl) (dn:List Rc) (r:Rc):U9 a b (dn++[r])=U9 a b dn++(10::Q7o r):=by simp [U9]
theorem Q3r (r:Rc) (td:List Rc) (tl:List UInt8):P4 (r::td) tl=10::(Q7o r++P4 td tl):=by simp [P4]
theorem Q5y (td:List Rc) (tl:List UInt8) (h:tl=[]∨tl=[10]):Q9o (P4 td tl):=by
 cases td with
 | nil=>
   rcases h with rfl | rfl
   ·exact .inl rfl
   ·exact .inr ⟨[],rfl⟩
 | cons r td=>exact .inr ⟨_,Q3r r td tl⟩
theorem Y0c (a b:List Fl) (dn:List Rc) (r:Rc):Z6 a b (dn++[r])=O7 (Z6 a b dn) r:=by
 unfold Z6;rw [dY];rfl
theorem Q2o (a b:List Fl) (rs:List Rc):(Z6 a b rs).1.length=rs.length:=by
 suffices h:∀ (rs:List Rc) (st:List Un×List UInt8),(rs.foldl O7 st).1.length=st.1.length+rs.length by
  have:=h rs ([],I6 a b);unfold Z6;simpa using this
 intro rs;induction rs with
 | nil=>intro st;rfl
 | cons r rs ih=>
   intro st;rw [bQ,ih];show (st.1++[_]).length+rs.length=_;rw [aA,aG];simp;omega
theorem Q1n (a b:List Fl) (rs:List Rc):U9 a b rs=Z4 (Z6 a b rs).1++(Z6 a b rs).2:=by
 have:=X4x rs ([],I6 a b);rw [show Z4 ([]:List Un)=[] from rfl,bJ] at this;exact this.symm
structure RcF (a b:List Fl) (r:Rc):Prop where
 pre:r.pre.length=a.length
 post:r.post.length=b.length
 okA:∀ f∈r.pre,Q6l f
 okB:∀ f∈r.post,Q6l f
 raw:RawOk 3 r.ts
theorem Y9b (r:Rc) (n:Nat) (h:r.pre.length=n):pjC ((Q0q r).take n)=G0 r.pre:=by
 unfold Q0q;rw [List.take_left' (by simpa using h),V8z]
def V1g (a b:List Fl) (dn td:List Rc) (size:Nat):Nat:=if td=[] then size else (U9 a b dn).length+1
theorem Y6c (a b:List Fl) (dn td:List Rc) (tl:List UInt8) (h:tl=[]∨tl=[10]) (size n:Nat) (hs:size=(U9 a b dn++P4 td tl).length) (hn:n=(U9 a b dn).length):min ((n:Int)+1) (size:Int)=((V1g a b dn td size:Nat):Int):=by
 subst hn;unfold V1g;cases td with
 | nil=>
   rw [aK rfl,aA] at *;rcases h with rfl | rfl
   ·simp [P4] at hs;omega
   ·simp [P4] at hs;omega
 | cons r td=>
   rw [aE yW];rw [Q3r,aA] at hs;simp only [aG] at hs;omega
theorem Z0d (data:fY) (a b:List Fl) (rs:List Rc) (tl:List UInt8) (w:World) (htl:tl=[]∨tl=[10]) (hd:data.data.toList=U9 a b rs++tl)
 (ha:∀ f∈a,Q6l f∧Q4r f≠C7) (hb:∀ f∈b,Q6l f∧Q4r f≠C7) (hrs:∀ r∈rs,RcF a b r) (hkey:∀ i r,rs[i]? =some r→r.key=Lib.decDigits (i+1)) (hrl:rs.length≤98) (hal:a.length+1+b.length≤90) (hsz:data.size≤65536):
 Calls prog 96 #[.string data] w (D6 (P9 (Z6 a b rs).1 ((Z6 a b rs).2++tl)) w):=by
 obtain ⟨R,hO⟩:∃ R:Ending→World→Prop,yK (R=D6 (P9 (Z6 a b rs).1 ((Z6 a b rs).2++tl)) w):=⟨_,rfl⟩;rw [←hO.o];have CP:=zW (fun w=>Q5s data w);have HD:=zW hd;have He:=zW hrs;have hF:=zW hkey;have hP:=zW htl;have hB:=Y7p a b;have CN0:=zW (fun (gt g:Nat) W (hW:TbX gt g data 0 0 0 0 W)=>Z8e data (Q6j a b) (P4 rs tl) a.length W hW (by rw [hd,X1n,show I6 a b=U9 a b [] by simp [U9]];exact Q4s a b [] rs tl) (by intro e;rw [e] at hB;simp at hB;omega) (Q5y rs tl htl) (Z5k a b (fun f hf=>(ha f hf).1) (fun f hf=>(hb f hf).1)) (Z5j a b) (X7t a b (fun f hf=>(ha f hf).2) (fun f hf=>(hb f hf).2)) hsz yY);have hm:=Y6c a b [] rs tl htl data.size (K3 (Q6j a b)).length (by rw [aC,hd,←Q4s];rfl) (by rw [X1n];simp [U9]);rw [hm,hB] at CN0;clear hd hrs hkey htl ha hb hm hB;go_enter func96,ntmps96
 go_upto_region 4 with (go_at_call 142;refine (CP.o _).mono ?_;rintro e w0 ⟨g,rfl,hZ,hR⟩;have hH:=zW hZ;have hE:=zW hR;clear hZ hR)
 have Hg:=hH.o.gsz;have hD:=hE.o.size;have hI:=zW (hH.o.below ((aB w0.heap.size w0).alloc yQ (.cells #[.string data,.pointer (some ⟨g,0,none⟩),.int .i64 0,.int .i64 0,.int .i64 0,.int .i64 0] 219)));have hp:=zW (hE.o.alloc hD (.cells #[.string data,.pointer (some ⟨g,0,none⟩),.int .i64 0,.int .i64 0,.int .i64 0,.int .i64 0] 219));have hy:yK (TbX w0.heap.size g data 0 0 0 0 (w0.alloc (.cells #[.string data,.pointer (some ⟨g,0,none⟩),.int .i64 0,.int .i64 0,.int .i64 0,.int .i64 0] 219))):=aT w0 _;generalize w0.alloc (.cells #[.string data,.pointer (some ⟨g,0,none⟩),.int .i64 0,.int .i64 0,.int .i64 0,.int .i64 0] 219)=w1 at hI hp hy ⊢;have hC:w0.heap.size≠g:=yY;generalize w0.heap.size=gt at hC hy hD ⊢;clear hH hE Hg;obtain ⟨n,hn⟩:∃ n,n=a.length+1+b.length:=⟨_,rfl⟩;rw [←hn] at CN0;have HN:=zW hn;have Hh:n≤90:=yY;have Hj:0 < data.size:=(by rw [aC,HD.o];unfold U9 I6 C7;simp;omega);clear hn hal;go_loopg [3] (rs.length+1) (fun gk av wr=>(av=.int .i64 0∧yK (TbX gt g data 0 0 0 0 wr)∧(∃ lv,yK (PsB w.heap.size g data 0 lv [] wr))∧yK (Below w.heap.size w wr)∧rs.length+1≤gk)∨(∃ dn td,yK (rs=dn++td)∧av=.int .i64 (V1g a b dn td data.size:Nat)∧yK (TbX gt g data (dn.length+1) n a.length 1 wr)∧(∃ lv,yK (PsB w.heap.size g data (Z4 (Z6 a b dn).1).length lv (P1 (Z6 a b dn).1) wr))∧yK (Below w.heap.size w wr)∧td.length≤gk))
 case atStart=>exact .inl ⟨rfl,hy.o,⟨_,hI.o⟩,hp.o,yQ⟩
 case round=>
  clear hy hI hp;rcases hrel with ⟨rfl,HT,⟨lv,HP⟩,HB,hgk⟩ | ⟨dn,td,HE,rfl,HT,⟨lv,HP⟩,HB,hgk⟩
  ·obtain ⟨q0,q1,q2,q3,q4,q5⟩:=HT.o.cells;have hG:=zW (Y1 HP.o.own HT.o yX);go_upto_region 8 with (go_at_call 151;refine (CN0.o _ _ _ (by exact HT.o)).mono ?_;rintro e w2 ⟨rfl,hx,hY⟩;have hl:=zW hx;have Hd:=zW hY;clear hx hY)
   obtain ⟨z0,z1,z2,z3,z4,z5⟩:=hl.o.cells;have y2:=hl.o.frozen 2;have hz:=zW (hl.o.set2 1);have hj:=zW (Hd.o.trans (Mod.set w2 gt 2 (.int .i64 1)) (fun i h _=>h));have Hl:=HT.o.gsz;clear q0 q1 q2 q3 q4 q5;go_wp2_with fail
   go_roundg rs.length
   case measure=>omega
   case rel=>
    refine .inr ⟨[],rs,rfl,rfl,hz.o,⟨lv,?_⟩,HB.o.trans (hj.o.below (fun i hi=>by rw [hi];exact hD) HB.o.size),yQ⟩;exact ⟨(hj.o.block g HP.o.gsz (fun e=>hC e.symm)).trans HP.o.box,hj.o.own HP.o.own (fun k hk e=>hG.o k hk e),HP.o.lt⟩
  ·obtain ⟨q0,q1,q2,q3,q4,q5⟩:=HT.o.cells;have Hm:(((dn.length+1:Nat):Int)==0)=false:=(by rw [aI];omega);have Hn:((dn.length:Int)+1==0)=false:=(by rw [aI];omega);cases td with
   | nil=>
     have he:rs=dn:=(by have:=HE.o;rwa [aX] at this);subst he;rw [show V1g a b rs [] data.size=data.size from aK rfl];have hu:=C6 (Z6 a b rs).1;rw [Q2o] at hu;have hh:=Q1n a b rs;have hV:(Z4 (Z6 a b rs).1).length≤data.size:=(by rw [aC,HD.o,hh];simp);have hU:data.extract (Z4 (Z6 a b rs).1).length data.size=ofL ((Z6 a b rs).2++tl):=B7 _ _ _ (by rw [HD.o,hh,aZ]);have HC:=zW (X8d HP.o hV yY yY);rw [hU,show (⟨#[]⟩:fY)=ofL [] from rfl,←Q5t] at HC;clear hU hV hu hh;go_wp2_with (go_at_call 147;refine (HC.o).mono ?_;rintro e w1 ⟨v,rfl,ho,hS⟩;have HO:=zW ho;have hp:=zW (HB.o.trans hS);obtain ⟨A,c,rfl⟩:=Q0 ho;clear ho hS)
     first | go_ret3 | skip
     rw [hO.o];exact ⟨_,rfl,HO.o,hp.o⟩
   | cons r td=>
     have hr:=He.o r (by rw [HE.o];simp);have Hb:=hF.o dn.length r (by rw [HE.o,bF yQ,cZ];rfl);have Hk:dn.length+1+td.length=rs.length:=(by rw [HE.o];simp;omega);have hw:(Q0q r).length=n:=(by rw [Y9c,hr.pre,hr.post,HN.o]);obtain ⟨pre0,hg⟩:∃ pre0,pre0=U9 a b dn++[10]:=⟨_,rfl⟩;have hc:pre0.length=(U9 a b dn).length+1:=(by rw [hg];simp);have hQ:V1g a b dn (r::td) data.size=pre0.length:=(by rw [hc];exact aE yW);rw [hQ];have hA:data.data.toList=pre0++(K3 (Q0q r)++P4 td tl):=(by rw [HD.o,HE.o,Q4s,Q3r,Q4u,hg];simp);have hh:=Q1n a b dn;have hu:=C6 (Z6 a b dn).1;rw [Q2o] at hu;have hL:=Y0c a b dn r;have hM:=Y9b r a.length hr.pre;have hK:K3 (Q0q r)=G0 r.pre++(34::(Q2 r.ts++(34::T4 r.post))):=(by rw [Q4u];rfl);have hs:pre0.length+(pjC ((Q0q r).take a.length)).length+1+(Q2 r.ts).length=(Z4 (Z6 a b (dn++[r])).1).length:=by
      rw [hL,hM,hc,hh];show _=(Z4 ((Z6 a b dn).1++[⟨(Z6 a b dn).2++(10::(G0 r.pre++[34])),r.key,r.ts⟩])).length;rw [Q2l];simp;omega
     have hX:data.extract (Z4 (Z6 a b dn).1).length (pre0.length+(pjC ((Q0q r).take a.length)).length+1)=ofL ((Z6 a b dn).2++(10::(G0 r.pre++[34]))):=
      T0 data (Z4 (Z6 a b dn).1) ((Z6 a b dn).2++(10::(G0 r.pre++[34]))) (Q2 r.ts++(34::T4 r.post)++P4 td tl) _ (by rw [hA,hg,hh,hK];simp) (by rw [hM,hc,hh];simp;omega)
     have hv:P1 (Z6 a b dn).1++[⟨false,ofL [],ofL ((Z6 a b dn).2++(10::(G0 r.pre++[34])))⟩,⟨true,ofL (Lib.decDigits (dn.length+1)),ofL (Q2 r.ts)⟩]=P1 (Z6 a b (dn++[r])).1:=by
      rw [hL,←Hb];exact (Q2j (Z6 a b dn).1 ⟨(Z6 a b dn).2++(10::(G0 r.pre++[34])),r.key,r.ts⟩).symm
     have ht:=Y6c a b (dn++[r]) td tl hP.o data.size (pre0++K3 (Q0q r)).length (by rw [aC,HD.o,←Q4s,HE.o];simp) (by rw [X0e,Q4u,hg];simp);have CN:=zW (V0a data pre0 (Q0q r) (P4 td tl) a.length r.ts (dn.length+1) (Z4 (Z6 a b dn).1).length lv (P1 (Z6 a b dn).1) wr (by rw [hw];exact HT.o) HP.o hC hA (by intro e;rw [e] at hw;simp at hw;have:=HN.o;omega) (Q5y td tl hP.o) (Z6h r hr.okA hr.okB hr.raw.els) (by rw [←hr.pre];exact Z6g r) hr.raw (by rw [hc,hh,aA];omega) yY yY hsz yY yY);rw [ht,hs,hX,hv,hw] at CN;have hJ:yK (((pre0.length:Nat):Int) < (data.size:Int)):=(by show _ < _;rw [aC,hA];simp [hK];omega);have Hi:=hJ.o;have Hf:td.length+1≤gk:=hgk;have Hc:yK (rs=dn++[r]++td):=(by show _=_;rw [HE.o];simp);clear hr Hb hw hg hc hQ hA hh hu hL hM hK hs hX hv ht;go_upto_region 8 with (go_at_call 151;refine (CN.o).mono ?_;rintro e w2 ⟨rfl,hx,⟨lv2,Ha⟩,hT⟩;have hl:=zW hx;have hq:=zW Ha;have hN:=zW (HB.o.trans hT);clear hx Ha hT)
     obtain ⟨z0,z1,z2,z3,z4,z5⟩:=hl.o.cells;have y2:=hl.o.frozen 2;have hG:=zW (Y1 hq.o.own hl.o yX);have hz:=zW (hl.o.set2 (dn.length+1+1));have hj:=zW (Mod.set w2 gt 2 (.int .i64 ((dn.length+1+1:Nat):Int)));rw [show ((dn.length+1+1:Nat):Int)=(dn.length:Int)+1+1 by omega] at hz hj;clear q0 q1 q2 q3 q4 q5;go_wp2_with fail
     go_roundg td.length
     case measure=>omega
     case rel=>
      refine .inr ⟨dn++[r],td,Hc.o,rfl,?_,⟨lv2,?_⟩,hN.o.trans (hj.o.below (fun i hi=>by rw [hi];exact hD) hN.o.size),yQ⟩
      ·rw [show (dn++[r]).length=dn.length+1 by simp];exact hz.o
      ·exact ⟨(hj.o.block g hq.o.gsz (fun e=>hC e.symm)).trans hq.o.box,hj.o.own hq.o.own (fun k hk e=>hG.o k hk e),hq.o.lt⟩
theorem X4f (f:List Tk) (v:Value) (w:World) (hf:RdT w v f) (hl:f.length≤100000) (hbt:X3 f≤1000000):
 Calls prog 104 #[v] w (N6 31 tkC 3 w (Q4 f)):=by
 obtain ⟨A,c,rfl,_,_⟩:=hf.shape;have HF:=zW hf;obtain ⟨i8,hD,hH,hF,hC⟩:=fF X3b;have hK:=zW hD;have hN:=zW hH;have hL:=zW hF;have hI:=zW hC;clear hf hD hH hF hC;go_enter func104,ntmps104
 go_wp2
 go_loopw [3,4] (fun ov i wr=>∃ k:Nat,k≤f.length∧i=.int .i64 k∧yK (OwnT 31 wr w.heap.size ov (Q4 (f.take k)))∧Below w.heap.size w wr∧yK (∀ h:k < f.length,(f[k]'h).k=1→Y3i (Q4 (f.take k)))) (fun _ i _=>f.length - (intOf i).toNat)
 case atStart=>exact ⟨0,yY,rfl,OwnE.nil,aB _ _,fun _ _ y hy=>by simp [Q4] at hy⟩
 case round=>
  obtain ⟨k,hk,rfl,HO,hb,HN⟩:=hrel;have ha:=hb.size;obtain ⟨A',c',hv⟩:=Q0 HO.o;subst hv;have hE:(Q4 (f.take k)).length≤f.length:=by
   have:=N0 (f.take k);rw [bG] at this;omega
  by_cases hkl:k < f.length
  ·obtain ⟨b,o,rfl,hh,q1,q2,q3⟩:=RdT.at_ HF.o k hkl;rw [←hb.cell (p:=⟨b,o+k * 3,none⟩) hh] at q1;rw [←hb.cell (p:=⟨b,o+k * 3+1,none⟩) hh] at q2;rw [←hb.cell (p:=⟨b,o+k * 3+2,none⟩) hh] at q3;have HT:=zW (Q9z f k hkl);have hA:=zW (HN.o hkl);generalize hx:f[k]=x at q1 q2 q3 HT hA;have HX:=zW hx;obtain ⟨xk,xt,xd⟩:=x;simp only at q1 q2 q3;clear hx;by_cases h1:xk=1
   ·have hr:=zW (hA.o h1);generalize hout:Q4 (f.take k)=out at HO hE hr HT;have ht:=zW hout;subst h1;clear hout;go_wp2_with fail
    obtain ⟨wo,rfl⟩:∃ wo:World,wo=wr:=⟨_,rfl⟩;go_loopw [4,5] (fun i bv wi=>∃ (j:Nat) (bs:fY),k≤j∧j≤f.length∧i=.int .i64 j∧bs.size≤1000000∧yK (bs.size≤X3 (f.take j))∧yK (wi.ownsRow wo.heap.size 5 1 bv bs.size (Go.Lib.strCells bs))∧yK (Below wo.heap.size wo wi)∧yK (Q4 (f.take j)=X4 out ⟨1,bs,0⟩)∧yK (j=k→bs.size=0)) (fun i _ _=>f.length - (intOf i).toNat)
    case atStart=>exact ⟨k,⟨#[]⟩,yY,yY,rfl,yX,aO _,eN _ _ _ _,aB _ _,by rw [H5 _ _ _ rfl];exact ht.o,fun _=>rfl⟩
    case round=>
     obtain ⟨j,bs,hV,hj,rfl,hT,hJ,hi,hg,hm,hS⟩:=hrel;obtain ⟨A2,c2,hR⟩:=Q0 hi.o;subst hR;have hW:=hg.o.size;have hp:=zW (U1 HO.o hg.o yQ);have hc:=zW (hb.trans (hg.o.mono ha));by_cases hjl:j < f.length
     ·have hw:decide ((j:Int) < (f.length:Int))=true:=yV;obtain ⟨b',o',hu,_,p1,p2,p3⟩:=RdT.at_ HF.o j hjl;injection hu with hu;injection hu with e1 e2 _;subst e1 e2;rw [←hc.o.cell (p:=⟨b,o+j * 3,none⟩) hh] at p1;rw [←hc.o.cell (p:=⟨b,o+j * 3+1,none⟩) hh] at p2;rw [←hc.o.cell (p:=⟨b,o+j * 3+2,none⟩) hh] at p3;have hB:=zW (Q9z f j hjl);have hn:=Q5q f (j+1);rw [R2 f j hjl] at hn;have ho:=zW (R2 f j hjl);unfold wdI at hn ho;generalize hy:f[j]=y at p1 p2 p3 hB hn ho;have HY:=zW hy;obtain ⟨yk,yt,yd⟩:=y;simp only at p1 p2 p3 hn;clear hy;have hP:=hJ.o;by_cases hy1:yk=1
      ·subst hy1;simp only [if_true] at hn ho;go_wp2_with (at_builtin;go_must (refine Go.Lib.wpList_append_own_string _ rfl (.tmp 37) (.tmp 42) 89 9 rfl wo.heap.size 5 i8 underlying89 underlying9 hK.o hN.o hL.o hI.o _ bs.size _ rfl (by exact hi.o) yt rfl (by unfold maxLen;omega) yY (by exact hg.o.size) ?_);intro v7 w7 hown7 hgr7 _)
       have hO:=hg.o.grown hgr7 (by exact hg.o.size) (fun q hq=>(hi.o.lt q hq).1);refine ⟨⟨j+1,bs++yt,yY,yY,by go_num,by rw [bD];omega,?_,?_,hO,?_,fun h=>absurd h yY⟩,by simp [intOf];try omega⟩
       ·show (bs++yt).size≤X3 (f.take (j+1));rw [bD,ho.o];show bs.size+yt.size≤X3 (f.take j)+yt.size;omega
       ·rw [L6] at hown7;rw [bD];exact hown7
       ·show Q4 (f.take (j+1))=X4 out ⟨1,bs++yt,0⟩;rw [hB.o,hm.o,X9t _ _ _ _ _ 0]
      ·have ty:(yk==1)=false:=(by simpa using hy1);have hU:k < j:=by
        rcases Nat.lt_or_ge k j with h | h
        ·exact h
        ·exfalso;obtain rfl:j=k:=yY;have:=HX.o;rw [HY.o] at this;injection this with e _ _;exact hy1 e
       by_cases hz:0 < bs.size
       ·have hQ:=B5 bs 89 9 underlying89 underlying5 underlying9 hi.o rfl hz;go_wp2_with (at_builtin;go_must (refine Z7 rfl (.tmp 49) (.tmp 53) 24 31 rfl underlying24 _ 3 32 Z8 rfl yX w.heap.size _ out.length (out.flatMap tkC) rfl (by exact aD hp.o _) ⟨wr.heap.size,0,none⟩ 1 (tkC ⟨1,bs,0⟩) rfl rfl (by exact T6 _ _ rfl _ _) (D4 _) yY yX yV ?_);intro g cap w1 hown1 hg1 hbel1 hgr1)
        refine ⟨⟨j,yY,rfl,?_,hbel1 _ _ yQ (by exact hc.o.alloc yY _),fun h hk=>by rw [HY.o] at hk;exact absurd hk hy1⟩,by simp [intOf];try omega⟩;rw [hm.o,Q7w _ _ _ hr.o yY];exact OwnE.snoc hown1
       ·have hd:bs.size=0:=yY;have hs:yK (Q4 (f.take j)=out):=by
         show Q4 (f.take j)=out;rw [hm.o,H5 _ _ _ hd]
        have hM:=zW hd;clear hd;go_wp2_with fail
        refine ⟨⟨j,yY,rfl,?_,hc.o,fun h hk=>by rw [HY.o] at hk;exact absurd hk hy1⟩,by simp [intOf];try omega⟩;rw [hs.o];exact hp.o
     ·obtain rfl:j=f.length:=yY;have hw:decide ((f.length:Int) < (f.length:Int))=false:=yW;by_cases hz:0 < bs.size
      ·have hQ:=B5 bs 89 9 underlying89 underlying5 underlying9 hi.o rfl hz;go_wp2_with (at_builtin;go_must (refine Z7 rfl (.tmp 49) (.tmp 53) 24 31 rfl underlying24 _ 3 32 Z8 rfl yX w.heap.size _ out.length (out.flatMap tkC) rfl (by exact aD hp.o _) ⟨wr.heap.size,0,none⟩ 1 (tkC ⟨1,bs,0⟩) rfl rfl (by exact T6 _ _ rfl _ _) (D4 _) yY yX yV ?_);intro g cap w1 hown1 hg1 hbel1 hgr1)
       refine ⟨⟨f.length,yY,rfl,?_,hbel1 _ _ yQ (by exact hc.o.alloc yY _),fun h=>absurd h yY⟩,by simp [intOf];try omega⟩;rw [hm.o,Q7w _ _ _ hr.o yY];exact OwnE.snoc hown1
      ·have hd:bs.size=0:=yY;have hs:yK (Q4 (f.take f.length)=out):=by
        show Q4 (f.take f.length)=out;rw [hm.o,H5 _ _ _ hd]
       have hM:=zW hd;clear hd;go_wp2_with fail
       refine ⟨⟨f.length,yY,rfl,?_,hc.o,fun h=>absurd h yY⟩,by simp [intOf];try omega⟩;rw [hs.o];exact hp.o
   ·have t1:(xk != 1)=true:=(by simpa using h1);have h1':xk≠1:=h1;have H1:=zW h1';clear h1 h1';go_wp2_with (at_builtin;go_must (refine Z7 rfl (.tmp 16) (.tmp 21) 24 31 rfl underlying24 _ 3 32 Z8 rfl yX w.heap.size _ (Q4 (f.take k)).length ((Q4 (f.take k)).flatMap tkC) rfl (by exact aD HO.o _) ⟨wr.heap.size,0,none⟩ 1 (tkC ⟨xk,xt,xd⟩) rfl rfl (by exact T6 _ _ rfl _ _) (D4 _) yY yX yV ?_);intro g cap w1 hown1 hg1 hbel1 hgr1)
    have hG:=D9 (Q4 (f.take k)) ⟨xk,xt,xd⟩ H1.o;refine ⟨⟨k+1,yY,by go_num,?_,hbel1 _ _ yQ (by exact hb.alloc ha _),fun h _ y hy=>?_⟩,by simp [intOf];try omega⟩
    ·rw [HT.o,hG];exact OwnE.snoc hown1
    ·rw [HT.o,hG] at hy;simp at hy;rw [←hy];exact H1.o
  ·obtain rfl:k=f.length:=yY;have he:=HO.o;rw [aW] at he hE ⊢;have HE:=zW he;have e0:decide ((f.length:Int) < (f.length:Int))=false:=yW;clear he HO;go_wp2_with fail
   go_ret
   exact ⟨_,rfl,HE.o,hb⟩
def RdTT (w:World) (v:Value) (L:List (List Tk)):Prop:=
 ∃ A c,v=.slice A L.length c∧(L≠[]→∃ b o,A=some ⟨b,o,none⟩∧b < w.heap.size∧∀ i x,L[i]? =some x→∃ A' c',w.cell? ⟨b,o+i,none⟩=some (.slice A' x.length c')∧RdT w (.slice A' x.length c') x)
theorem RdTT.below {w w':World} {v:Value} {L:List (List Tk)} (h:RdTT w v L) {B:Nat} (hb:Below B w w') (hB:w.heap.size≤B):RdTT w' v L:=by
 obtain ⟨A,c,hv,h0⟩:=h;refine ⟨A,c,hv,fun hl=>?_⟩;obtain ⟨b,o,hA,ha,hx⟩:=h0 hl;refine ⟨b,o,hA,bC ha hb.size,fun i x hi=>?_⟩;obtain ⟨A',c',h1,h2⟩:=hx i x hi;exact ⟨A',c',(hb.cell (p:=⟨b,o+i,none⟩) (bC ha hB)).trans h1,h2.below hb hB⟩
theorem RdTT.at_ {w:World} {A:Option Addr} {n c:Nat} {L:List (List Tk)} (h:RdTT w (.slice A n c) L) (k:Nat) (hk:k < L.length):
 ∃ b o A' c',A=some ⟨b,o,none⟩∧b < w.heap.size∧w.cell? ⟨b,o+k,none⟩=some (.slice A' L[k].length c')∧RdT w (.slice A' L[k].length c') L[k]:=by
 obtain ⟨A1,c1,hv,h0⟩:=h;injection hv with e1 e2 e3;subst e1;obtain ⟨b,o,hA,hb,hx⟩:=h0 (by intro e;rw [e] at hk;simp at hk);obtain ⟨A',c',h1,h2⟩:=hx k L[k] (aF hk);exact ⟨b,o,A',c',hA,hb,h1,h2⟩
theorem V2z (n:Nat) (hn:n≤100000) (w:World):Calls prog 180 #[.slice none 0 0,.int .i64 n] w (fun e w'=>∃ v,e=.returned v∧OwnT 31 w' w.heap.size v []∧Below w.heap.size w w'):=by
 by_cases h0:n=0
 ·subst h0;go_enter func180,ntmps180
  go_wp2_with fail
  go_ret
  exact ⟨_,rfl,OwnE.nil,aB _ _⟩
 ·have hp:(0:Int) < n:=yY;obtain ⟨i,hi,hz,ha,hc⟩:=fF Z8;have hr:=Go.Lib.run_append_nil_zeros (P:=prog) w 24 3 24 31 i _ .i64 .i64 underlying24 underlying3 hi hz n yY yY yY (by rw [hc];omega);have HR:=zW hr;have HB:=zW ((aB w.heap.size w).drew.alloc yQ (.cells (Builtin.zeroCells (Value.agg #[.int .i64 0,.string ⟨#[]⟩,.int .i64 0]).cells n++Builtin.zeroCells (Value.agg #[.int .i64 0,.string ⟨#[]⟩,.int .i64 0]).cells (grownCap w n 0 31 - n)) 31));have hd:=grownCap_ge w n 0 31;have hb:=grownCap_le_maxLen w n 0 31 (by unfold maxLen;omega);have HO:yK (OwnT 31 (w.drew.alloc (.cells (Builtin.zeroCells (Value.agg #[.int .i64 0,.string ⟨#[]⟩,.int .i64 0]).cells n++Builtin.zeroCells (Value.agg #[.int .i64 0,.string ⟨#[]⟩,.int .i64 0]).cells (grownCap w n 0 31 - n)) 31)) w.heap.size (.slice (some ⟨w.heap.size,0,none⟩) 0 (grownCap w n 0 31)) []):=by
   refine ⟨rfl,.inr ⟨w.heap.size,_,_,rfl,yQ,aT w.drew _,aO _,hb,?_,by simp⟩⟩;rw [Array.size_append,size_zeroCells,size_zeroCells,←Nat.add_mul,show n+(grownCap w n 0 31 - n)=grownCap w n 0 31 by omega];rfl
  have he:((grownCap w n 0 31:Nat):Int)≤9223372036854775807:=(by unfold maxLen at hb;omega);generalize grownCap w n 0 31=cap at *;clear hr hi hz ha hc hb;go_enter func180,ntmps180
  go_wp2_with (at_builtin;refine Lib.wpList_append_run _ rfl _ _ _ _ rfl _ _ rfl rfl _ _ HR.o ?_)
  go_ret
  exact ⟨_,rfl,HO.o,HB.o⟩
theorem X3s (L:List (List Tk)) (k:Nat) (h:k < L.length):(L.take (k+1)).flatten=(L.take k).flatten++L[k]:=by
 rw [aH h,List.flatten_append,List.flatten_cons,List.flatten_nil,aX]
theorem Y4a (L:List (List Tk)) (k:Nat):(L.take k).flatten.length≤L.flatten.length:=by
 have:=congrArg (fun l=>(List.flatten l).length) (bR k L);simp only [List.flatten_append,aA] at this;omega
theorem Y9y (L:List (List Tk)) (v:Value) (w:World) (h:RdTT w v L) (hl:L.length≤100000) (hn:L.flatten.length≤100000):
 Calls prog 156 #[v] w (N6 31 tkC 3 w L.flatten):=by
 obtain ⟨R,hj⟩:∃ R,yK (R=N6 31 tkC 3 w L.flatten):=⟨_,rfl⟩;rw [←hj.o];obtain ⟨A,c,rfl,h0⟩:=h;have H:yK (RdTT w (.slice A L.length c) L):=⟨A,c,rfl,h0⟩;have HN:=zW hn;clear h0 hn;go_enter func156,ntmps156
 go_wp2_with fail
 go_loopg [3,11] L.length (fun gk sv iv wr=>∃ k:Nat,sv=.int .i64 ((L.take k).flatten.length:Nat)∧iv=.int .i64 k∧k≤L.length∧w=wr∧L.length - k≤gk)
 case atStart=>exact ⟨0,rfl,rfl,aO _,rfl,yQ⟩
 case round=>
  obtain ⟨k,rfl,rfl,hk,rfl,hgk⟩:=hrel;by_cases hlt:k < L.length
  ·obtain ⟨b,o,A',c',hA,hb,q,hr⟩:=RdTT.at_ H.o k hlt;subst hA;have hu:=Y4a L k;have hf:=Y4a L (k+1);have hd:=congrArg List.length (X3s L k hlt);rw [aA] at hd;have hm:=HN.o;have HS:yK (((L.take k).flatten.length:Int)+(L[k].length:Int)=(((L.take (k+1)).flatten.length:Nat):Int)):=(by show _=_;omega);have he:(L.take k).flatten.length≤100000:=yY;have hw:L[k].length≤100000:=yY;clear hd hu hf hr hm;generalize (L.take k).flatten.length=s0 at *;generalize L[k].length=s1 at *;go_wp2_with fail
   rw [HS.o];go_roundg (L.length - (k+1))
   case measure=>omega
   case rel=>exact ⟨k+1,rfl,rfl,hlt,rfl,yQ⟩
  ·obtain rfl:k=L.length:=yY;rw [aW];have HG:=zW (V2z L.flatten.length HN.o w);generalize hfl:L.flatten.length=fl at HG ⊢;have hv:=zW hfl;clear hfl;go_wp2_with (go_at_call 180;refine (HG.o).mono ?_;rintro e w1 ⟨v1,rfl,ho,he⟩;have hi:=zW ho;have hh:=zW he;clear ho he)
   go_loopg [6,27] L.length (fun gk sv iv wr=>∃ k:Nat,yK (OwnT 31 wr w.heap.size sv (L.take k).flatten)∧iv=.int .i64 k∧k≤L.length∧yK (Below w.heap.size w wr)∧L.length - k≤gk)
   case atStart=>exact ⟨0,hi.o,rfl,aO _,hh.o,yQ⟩
   case round=>
    obtain ⟨k,HO,rfl,hk,HB,hgk⟩:=hrel;clear hi hh;by_cases hlt:k < L.length
    ·obtain ⟨b,o,A',c',hA,hb,q,hr⟩:=RdTT.at_ (H.o.below HB.o yQ) k hlt;subst hA;have ht:=zW hr;have hf:=Y4a L (k+1);have hd:=congrArg List.length (X3s L k hlt);rw [aA] at hd;have hm:(L.take k).flatten.length+L[k].length≤100000:=(by have:=HN.o;omega);have hz:=HB.o.size;have hq:yK ((L.take k).flatten++L[k]=(L.take (k+1)).flatten):=(X3s L k hlt).symm;clear hr hf hd;go_wp2_with (at_builtin;refine V2 rfl (.tmp 31) (.tmp 32) 24 31 rfl underlying24 _ tkC 3 32 Z8 rfl yX Q5 D4 w.heap.size _ (L.take k).flatten rfl (by exact HO.o) _ L[k] rfl (by exact ht.o) yY yX hz ?_;intro v2 w2 hc ha hg;have hs:=zW hc;have hp:=zW (ha w.heap.size w yQ HB.o);clear hc ha hg)
     go_roundg (L.length - (k+1))
     case measure=>omega
     case rel=>
      refine ⟨k+1,?_,rfl,hlt,hp.o,yQ⟩;rw [←hq.o];exact hs.o
    ·obtain rfl:k=L.length:=yY;rw [aW] at HO;obtain ⟨A2,c2,rfl⟩:=Q0 HO.o;go_wp2_with fail
     first | go_ret | skip
     rw [hj.o];exact ⟨_,rfl,HO.o,HB.o⟩
theorem Q9q (a b:List Tk) (A A':Option Addr) (c c':Nat) (w:World) (ha:RdT w (.slice A a.length c) a) (hb:RdT w (.slice A' b.length c') b) (hn:a.length+b.length≤100000) (hw:X3 (a++b)≤1000000):
 Calls prog 113 #[.slice A a.length c,.slice A' b.length c'] w (N6 31 tkC 3 w (Q4 (a++b))):=by
 have hd:=(aB w.heap.size w).alloc yQ (.cells #[.slice A a.length c,.slice A' b.length c'] 24);have HL:yK (RdTT (w.alloc (.cells #[.slice A a.length c,.slice A' b.length c'] 24)) (.slice (some ⟨w.heap.size,0,none⟩) 2 2) [a,b]):=by
  refine ⟨_,2,rfl,fun _=>⟨_,_,rfl,by simp,fun i x hi=>?_⟩⟩;have hc:(w.alloc (.cells #[.slice A a.length c,.slice A' b.length c'] 24)).heap[w.heap.size]? =some (.cells #[.slice A a.length c,.slice A' b.length c'] 24):=aY;rcases i with _ | _ | i
  ·simp at hi;subst hi;exact ⟨A,c,by rw [bV _ _ _ _ _ _ hc];rfl,ha.below hd yQ⟩
  ·simp at hi;subst hi;exact ⟨A',c',by rw [bV _ _ _ _ _ _ hc];rfl,hb.below hd yQ⟩
  ·simp at hi
 have HC:=zW (Y9y [a,b] _ _ HL.o yW (by simpa using hn));have hm:=zW (fun (v:Value) (w':World) (h:RdT w' v (a++b))=>X4f (a++b) v w' h (by simpa using hn) hw);have hf:=zW hd;clear ha hb hd;go_enter func113,ntmps113
 go_wp2_with (first
  | (go_at_call 156;refine (HC.o).mono ?_;rintro e w1 ⟨v1,rfl,hj,hg⟩;have ho:=zW hj;have he:=zW (hf.o.trans (hg.mono hf.o.size));clear hj hg)
  | (go_at_call 104;refine (hm.o _ _ (by have:=ho.o.rd Q5;simpa using this)).mono ?_;rintro e w2 ⟨v2,rfl,hk,hh⟩;have hp:=zW hk;have hl:=zW (he.o.trans (hh.mono he.o.size));have hq:=he.o.size;clear hk hh))
 go_ret
 exact ⟨_,rfl,Y3 hp.o hq,hl.o⟩
theorem RdP.at_ {w:World} {A:Option Addr} {n c:Nat} {l:List Pt} (h:RdE ptC 3 w (.slice A n c) l) (k:Nat) (hk:k < l.length):
 ∃ b o,A=some ⟨b,o,none⟩∧b < w.heap.size∧w.cell? ⟨b,o+k * 3,none⟩=some (.bool l[k].un)∧w.cell? ⟨b,o+k * 3+1,none⟩=some (.string l[k].key)∧w.cell? ⟨b,o+k * 3+2,none⟩=some (.string l[k].raw):=by
 obtain ⟨b,o,hA,hb,hx⟩:=RdE.cells h yY;refine ⟨b,o,hA,hb,?_,?_,?_⟩
 ·exact hx k l[k] 0 (.bool l[k].un) (aF hk) rfl
 ·exact hx k l[k] 1 (.string l[k].key) (aF hk) rfl
 ·exact hx k l[k] 2 (.string l[k].raw) (aF hk) rfl
theorem U1u (w:World) (u:Bool) (k r:fY):(binOp .neq 52 (.agg #[.bool u,.string k,.string r]) (.agg #[.bool u,.string k,.string r])).run prog w=.ok (.bool false) w:=by
 go_simp
theorem U1v (w:World) (k d:Int) (t:fY):(binOp .neq 31 (.agg #[.int .i64 k,.string t,.int .i64 d]) (.agg #[.int .i64 k,.string t,.int .i64 d])).run prog w=.ok (.bool false) w:=by
 go_simp
theorem Z1h (l:List Pt) (va vb:Value) (w:World) (ha:RdE ptC 3 w va l) (hb:RdE ptC 3 w vb l) (hl:l.length≤1000000):
 Calls prog 105 #[va,vb] w (fun e w'=>e=.returned (.bool true)∧∃ n,w'=w.drewN n):=by
 obtain ⟨R,hc⟩:∃ R:Ending→World→Prop,yK (R=fun e w'=>e=.returned (.bool true)∧∃ n,w'=w.drewN n):=⟨_,rfl⟩;rw [←hc.o];obtain ⟨A,c,rfl,_,_⟩:=ha.shape;obtain ⟨A',c',rfl,_,_⟩:=hb.shape;have HA:=zW ha;have HB:=zW hb;have hf:=fun (w:World)=>U1u w;clear ha hb;go_enter func105,ntmps105
 go_wp2_with fail
 go_loopg [13] l.length (fun gk iv wr=>∃ k n:Nat,iv=.int .i64 k∧k≤l.length∧wr=w.drewN n∧l.length - k≤gk)
 case atStart=>exact ⟨0,0,rfl,aO _,rfl,yQ⟩
 case round=>
  obtain ⟨k,n,rfl,hk,rfl,hgk⟩:=hrel;by_cases hlt:k < l.length
  ·obtain ⟨b1,o1,rfl,hd,c0,c1,c2⟩:=RdP.at_ HA.o k hlt;obtain ⟨b2,o2,rfl,he,d0,d1,d2⟩:=RdP.at_ HB.o k hlt;generalize l[k].un=x0 at c0 d0;generalize l[k].key=x1 at c1 d1;generalize l[k].raw=x2 at c2 d2;go_wp2_with fail
   go_region
   all_goals (
    go_wp2_with fail
    go_roundg (l.length - (k+1))
    case measure=>omega
    case rel=>exact ⟨k+1,_,rfl,hlt,by first | rfl | simp only [World.drewN_drewN,World.drewN_drew],yQ⟩)
  ·obtain rfl:k=l.length:=yY;go_wp2_with fail
   first | go_ret | skip
   rw [hc.o];exact ⟨rfl,n,rfl⟩
theorem Z1i (l:List Tk) (va vb:Value) (w:World) (ha:RdE tkC 3 w va l) (hb:RdE tkC 3 w vb l) (hl:l.length≤1000000):
 Calls prog 109 #[va,vb] w (fun e w'=>e=.returned (.bool true)∧∃ n,w'=w.drewN n):=by
 obtain ⟨R,hc⟩:∃ R:Ending→World→Prop,yK (R=fun e w'=>e=.returned (.bool true)∧∃ n,w'=w.drewN n):=⟨_,rfl⟩;rw [←hc.o];obtain ⟨A,c,rfl,_,_⟩:=ha.shape;obtain ⟨A',c',rfl,_,_⟩:=hb.shape;have HA:=zW ha;have HB:=zW hb;have hf:=fun (w:World)=>U1v w;clear ha hb;go_enter func109,ntmps109
 go_wp2_with fail
 go_loopg [13] l.length (fun gk iv wr=>∃ k n:Nat,iv=.int .i64 k∧k≤l.length∧wr=w.drewN n∧l.length - k≤gk)
 case atStart=>exact ⟨0,0,rfl,aO _,rfl,yQ⟩
 case round=>
  obtain ⟨k,n,rfl,hk,rfl,hgk⟩:=hrel;by_cases hlt:k < l.length
  ·obtain ⟨b1,o1,rfl,hd,c0,c1,c2⟩:=RdT.at_ HA.o k hlt;obtain ⟨b2,o2,rfl,he,d0,d1,d2⟩:=RdT.at_ HB.o k hlt;generalize l[k].k=x0 at c0 d0;generalize l[k].t=x1 at c1 d1;generalize l[k].d=x2 at c2 d2;go_wp2_with fail
   go_region
   all_goals (
    go_wp2_with fail
    go_roundg (l.length - (k+1))
    case measure=>omega
    case rel=>exact ⟨k+1,_,rfl,hlt,by first | rfl | simp only [World.drewN_drewN,World.drewN_drew],yQ⟩)
  ·obtain rfl:k=l.length:=yY;go_wp2_with fail
   first | go_ret | skip
   rw [hc.o];exact ⟨rfl,n,rfl⟩
theorem V5j (l:List Tk) (va vb:Value) (w:World) (ha:RdT w va l) (hb:RdT w vb l) (hl:l.length≤1000000):
 Calls prog 69 #[va,vb] w (fun e w'=>e=.returned (.bool true)∧∃ n,w'=w.drewN n):=by
 have HC:=zW (Z1i l va vb w ha hb hl);obtain ⟨A,c,rfl,_,_⟩:=ha.shape;obtain ⟨A',c',rfl,_,_⟩:=hb.shape;clear ha hb;go_enter func69,ntmps69
 go_wp2_with (go_at_call 109;refine (HC.o).mono ?_;rintro e w1 ⟨rfl,n,rfl⟩)
 go_ret
 exact ⟨rfl,n,rfl⟩
theorem Z1e (l:List Pt) (v:Value) (w:World) (h:RdE ptC 3 w v l) (hl:l.length≤1000000) (hn:l≠[]):
 Calls prog 72 #[v] w (N6 52 ptC 3 w l):=by
 obtain ⟨A,c,rfl,h1,h2⟩:=h.shape;have hq:=fun (w:World) (a:Option Addr) (n c:Nat)=>Lib.run_eql_slice_nil w 39 52 a n c 0 0 underlying39;have HO:yK (OwnE 52 ptC 3 (w.alloc (.cells #[] 52)) w.heap.size (.slice (some ⟨w.heap.size,0,none⟩) 0 0) []):=World.ownsRow_made w #[] 0 yQ (aO _) rfl;obtain ⟨b,o,rfl,_⟩:∃ b o,A=some ⟨b,o,none⟩∧True:=by
  obtain ⟨b,o,hA,_⟩:=RdE.cells h (by cases l with | nil=>exact absurd rfl hn | cons x l=>simp);exact ⟨b,o,hA,trivial⟩
 have hc:=zW ((aB w.heap.size w).alloc yQ (.cells #[] 52));have HR:=zW (h.below hc.o yQ);have hz:=hc.o.size;clear h;go_enter func72,ntmps72
 go_wp2_with (at_builtin;refine V2 rfl (.tmp 5) (.tmp 6) 39 52 rfl underlying39 _ ptC 3 40 X2g rfl yX D3 X2f w.heap.size _ [] rfl (by exact HO.o) _ l rfl (by exact HR.o) yV yX hz ?_;intro v2 w2 hb ha hd;have hf:=zW hb;have he:=zW (ha w.heap.size w yQ hc.o);clear hb ha hd)
 go_ret
 exact ⟨_,rfl,hf.o,he.o⟩
theorem Z6m:(prog.info? 117).map (·.size)=some 2:=by kernel_rfl
theorem V9r:liesAt prog prog.depth 117 (2 / prog.cellsOf 117) 0 117 1=true:=by kernel_rfl
theorem X7g (b:Nat) (w:World) (h0:w.cell? ⟨b,0,none⟩=some (.pointer (some ⟨b,0,none⟩))):
 Calls prog 93 #[.pointer (some ⟨b,0,none⟩)] w fun e w'=>e=.returned (.tuple #[])∧w'=w:=by
 obtain ⟨j,hj,ha⟩:=fO.1 Z6m;go_enter func93,ntmps93
 go_wp2
 rw [Lib.run_neq_ptr_same w _ underlying115 hj];go_wp2
 go_end0
 exact ⟨rfl,rfl⟩
theorem X5r (b:Nat) (w:World) (h0:w.cell? ⟨b,0,none⟩=some (.pointer none)) (hsh:w.shape? b=some (117,2)) (hfz:w.frozen? ⟨b,0,none⟩=false):
 Calls prog 93 #[.pointer (some ⟨b,0,none⟩)] w fun e w'=>e=.returned (.tuple #[])∧w'=w.setCell ⟨b,0,none⟩ (.pointer (some ⟨b,0,none⟩)):=by
 obtain ⟨j,hj,ha⟩:=fO.1 Z6m;go_enter func93,ntmps93
 go_wp2
 rw [Lib.run_to_unsafe w ⟨b,0,none⟩ underlying115 underlying203 hj (by rw [ha];decide) hsh (Nat.zero_lt_succ 1)];simp only [Result.andThen];rw [Oper.upon_value];go_wp2
 rw [run_callFunc_extern func141 yZ yZ yZ (e:=Extern.AbiNoEscape.same) yZ];rw [Lib.run_noEscape];simp only [Result.andThen];rw [Oper.upon_value];go_wp2
 rw [Lib.run_from_unsafe w ⟨b,0,none⟩ underlying203 underlying115 hj hsh V9r];simp only [Result.andThen];rw [Oper.upon_value];go_wp2
 go_end0
 exact ⟨rfl,rfl⟩
theorem Y0n (B b:Nat) (bs:List Value) (w:World) (h:Lib.IsBuilder 117 5 B b bs w):
 Calls prog 93 #[.pointer (some ⟨b,0,none⟩)] w fun e w'=>e=.returned (.tuple #[])∧(Lib.BuilderAt 117 5 B b (.pointer (some ⟨b,0,none⟩)) bs w'∧Below B w w'):=by
 rcases h with h | h
 ·refine (X5r b w h.cell0 h.shape h.frozen0).mono ?_;rintro e w' ⟨rfl,rfl⟩;exact ⟨rfl,h.used _,(aB B w).setCell (p:=⟨b,0,none⟩) h.1 _⟩
 ·refine (X7g b w h.cell0).mono ?_;rintro e w' ⟨rfl,rfl⟩;exact ⟨rfl,h,aB B _⟩
theorem X5u (B b:Nat) (bs:List Value) (s:fY) (w:World) (h:Lib.IsBuilder 117 5 B b bs w) (hlen:bs.length+s.size≤140737488355328) (hBw:B≤w.heap.size):
 Calls prog 53 #[.pointer (some ⟨b,0,none⟩),.string s] w fun e w'=>e=.returned (.tuple #[.int .i64 s.size,.nilIface])∧(Lib.BuilderAt 117 5 B b (.pointer (some ⟨b,0,none⟩)) (bs++Lib.strCells s) w'∧Below B w w'):=by
 obtain ⟨i0,hi,hf,hg,hh⟩:=fF X3b;have HC:=zW (Y0n B b bs w h);clear h;go_enter func53,ntmps53
 go_wp2_with (go_at_call 93;refine (HC.o).mono ?_)
 rintro e w1 ⟨rfl,h1,hb1⟩;obtain ⟨hB,v,hc,ha,he⟩:=h1;have c0:w1.cell? ⟨b,0,none⟩=some (.pointer (some ⟨b,0,none⟩)):=(by rw [Lib.cell_of_heap hc];rfl);have c1:w1.cell? ⟨b,1,none⟩=some v:=(by rw [Lib.cell_of_heap hc];rfl);go_wp2_with (at_builtin;refine Lib.wpList_append_own_string _ rfl _ _ 89 9 rfl B 5 i0 underlying89 underlying9 hi hf hg hh _ _ _ rfl ha s rfl ?c3 ?c4 ?c5 ?_)
 case c3=>unfold maxLen;omega
 case c4=>omega
 case c5=>have:=hb1.size;omega
 intro v' w2 hown' hgrow _;have hd:b < w1.heap.size:=by
  rcases Nat.lt_or_ge b w1.heap.size with h' | h'
  ·exact h'
  ·simp [Array.getElem?_eq_none h'] at hc
 have hb:w2.heap[b]? =some (.cells #[.pointer (some ⟨b,0,none⟩),v] 117 (0,0)):=by
  rw [hgrow.block b hd (fun e=>he e.symm)];exact hc
 have d0:w2.cell? ⟨b,0,none⟩=some (.pointer (some ⟨b,0,none⟩)):=(by rw [Lib.cell_of_heap hb];rfl);have d1:w2.cell? ⟨b,1,none⟩=some v:=(by rw [Lib.cell_of_heap hb];rfl);have f1:w2.frozen? ⟨b,1,none⟩=false:=Lib.frozen_of_heap hb 1;obtain ⟨ao,n',cap,rfl⟩:∃ ao n' cap,v'=.slice ao n' cap:=by
  rcases hown'.2 with ⟨hv,_⟩ | ⟨g,cap,cur,hv,_⟩
  ·exact ⟨_,_,_,hv⟩
  ·exact ⟨_,_,_,hv⟩
 go_wp2
 go_ret2
 refine ⟨rfl,?_,?_⟩
 ·exact Lib.BuilderAt.put (T:=117) (e:=5) hB hb (bs':=bs++Lib.strCells s) (by simpa [Lib.strCells_length] using hown') yX
 ·exact (hb1.grown hgrow (by have:=hb1.size;omega) (fun k hk=>(ha.lt k hk).1)).setCell (p:=⟨b,1,none⟩) hB _
def Y0 (ps:List Pt):List UInt8:=(ps.map fun p=>p.raw.data.toList).flatten
theorem Q6n (ps:List Pt) (k:Nat) (h:k < ps.length):Y0 (ps.take (k+1))=Y0 (ps.take k)++ps[k].raw.data.toList:=by
 unfold Y0;rw [aH h,cP,List.flatten_append];simp
theorem X3j (ps:List Pt) (k:Nat):(Y0 (ps.take k)).length≤(Y0 ps).length:=by
 have:=congrArg (fun l=>(Y0 l).length) (bR k ps);unfold Y0 at *;simp only [cP,List.flatten_append,aA] at this;omega
theorem Z8h {T e:TypeId} {B b:Nat} {bs:List Value} {w w':World} (h:Lib.IsBuilder T e B b bs w) (hb:Below w.heap.size w w'):Lib.IsBuilder T e B b bs w':=by
 have k:∀ p,Lib.BuilderAt T e B b p bs w→Lib.BuilderAt T e B b p bs w':=by
  rintro p ⟨hB,v,hbk,hown,hne⟩;exact ⟨hB,v,(hb.block b (aN.1 hbk).1).trans hbk,Q7 hown fun k hk=>hb.block k (hown.lt k hk).2,hne⟩
 exact h.imp (k _) (k _)
theorem Q4b (fmt:Int) (ps:List Pt) (A:Option Addr) (c:Nat) (w:World) (h:RdE ptC 3 w (.slice A ps.length c) ps) (hl:ps.length≤100000) (hd:(Y0 ps).length≤1000000):
 Calls prog 24 #[.agg #[.int .i64 fmt,.slice A ps.length c]] w (fun e w'=>e=.returned (.string (ofL (Y0 ps)))∧Below w.heap.size w w'):=by
 obtain ⟨R,hj⟩:∃ R:Ending→World→Prop,yK (R=fun e w'=>e=.returned (.string (ofL (Y0 ps)))∧Below w.heap.size w w'):=⟨_,rfl⟩;rw [←hj.o];have HP:=zW h;have ho:=zW hd;have hh:=zW (((aB w.heap.size w).alloc yQ (.cells #[.int .i64 fmt,.slice A ps.length c] 41)).alloc yW (.cells #[.pointer none,.slice none 0 0] 117));have hf:yK (Lib.IsBuilder 117 5 w.heap.size (w.heap.size+1) [] ((w.alloc (.cells #[.int .i64 fmt,.slice A ps.length c] 41)).alloc (.cells #[.pointer none,.slice none 0 0] 117))):=by
  refine .inl ⟨Nat.le_succ _,.slice none 0 0,?_,eN _ _ _ _,by simp [Value.ownBlock]⟩;have:=aT (w.alloc (.cells #[.int .i64 fmt,.slice A ps.length c] 41)) (.cells #[.pointer none,.slice none 0 0] 117);simpa using this
 clear h hd;go_enter func24,ntmps24
 go_wp2_with fail
 obtain ⟨M,hM⟩:∃ M,yK (w.heap.size+1=M):=⟨_,rfl⟩;rw [hM.o] at hf;rw [hM.o];have hp:yK (w.heap.size≤M):=(by show _≤_;have:=hM.o;omega);go_loopg [9] ps.length (fun gk iv wr=>∃ k:Nat,iv=.int .i64 k∧k≤ps.length∧yK (Lib.IsBuilder 117 5 w.heap.size M (Lib.byteCells (Y0 (ps.take k))) wr)∧yK (Below w.heap.size w wr)∧ps.length - k≤gk)
 case atStart=>exact ⟨0,rfl,aO _,hf.o,hh.o,yQ⟩
 case round=>
  obtain ⟨k,rfl,hk,HI,HB,hgk⟩:=hrel;clear hf hh;by_cases hlt:k < ps.length
  ·obtain ⟨b,o,rfl,hb,c0,c1,c2⟩:=RdP.at_ (HP.o.below HB.o yQ) k hlt;have hm:=X3j ps (k+1);have hg:=Q6n ps k hlt;have hd:=ho.o;have hc:(Lib.byteCells (Y0 (ps.take k))).length+ps[k].raw.size≤140737488355328:=by
    rw [Lib.byteCells_length,aC];rw [hg,aA] at hm;omega
   have hi:yK (Lib.byteCells (Y0 (ps.take k))++Lib.strCells ps[k].raw=Lib.byteCells (Y0 (ps.take (k+1)))):=(by show _=_;rw [hg,Lib.byteCells_append,Lib.strCells_eq]);have hz:=HB.o.size;have CW:=zW (fun (w':World) (h:Lib.IsBuilder 117 5 w.heap.size M (Lib.byteCells (Y0 (ps.take k))) w') (hb:w.heap.size≤w'.heap.size)=>X5u w.heap.size M _ ps[k].raw w' h hc hb);rw [hi.o] at CW;clear hm hg hd hc hi;generalize ps[k].raw=x2 at *;generalize ps[k].key=x1 at *;generalize ps[k].un=x0 at *;have HA:=zW ((aB wr.heap.size wr).alloc yQ (.cells #[.bool x0,.string x1,.string x2] 52));go_wp2_with (go_at_call 53;refine (CW.o _ (by exact Z8h HI.o HA.o) (by exact aP hz HA.o.size)).mono ?_;rintro e w1 ⟨rfl,h1,ha⟩;have hn:=zW h1;have he:=zW (HB.o.trans ((HA.o.mono hz).trans ha));clear h1 ha)
   go_roundg (ps.length - (k+1))
   case measure=>omega
   case rel=>exact ⟨k+1,rfl,hlt,.inr hn.o,he.o,yQ⟩
  ·obtain rfl:k=ps.length:=yY;rw [aW] at HI;have CS:=zW (Tryz.Builder_String_any w.heap.size M (Y0 ps) wr HI.o HB.o.size);go_wp2_with (go_at_call 54;refine (CS.o).mono ?_;rintro e w1 ⟨rfl,ha⟩;have he:=zW (HB.o.trans ha);clear ha)
   first | go_ret | skip
   rw [hj.o];exact ⟨rfl,he.o⟩
end Go.Proofs.YtfkojnofbpdjdaaGreatDoor
namespace Go.Proofs.YtfkojnofbpdjdaaGreatDoor
open Tryz
open Go.RowKit Go.Maps
theorem Q0j:Keyed prog 3:=int_keyed underlying3
theorem X6d (d:Int) (h:H7 d):keyOf prog 3 (.int .i64 d)=some (.int .i64 d):=keyOf_int_mk underlying3 (by
 show (decide (IntKind.i64.min≤d) && decide (d≤IntKind.i64.max))=true;have e1:IntKind.i64.min=-9223372036854775808:=yX;have e2:IntKind.i64.max=9223372036854775807:=yX;rw [e1,e2,dC];exact ⟨cR h.1,cR h.2⟩)
def IntSet (w:World) (b n:Nat) (S:List Int):Prop:=
 ∃ D:DataW Unit,w.ownsMap prog 3 (plainElem prog 4) b n D∧IsMap D∧∀ d:Int,H7 d→D.atKey (.int .i64 d) (.lit (.bool false))=.lit (.bool (decide (d∈S)))
theorem Z3x (w:World):(zeroValue 4).run prog w=.ok (.bool false) w:=by kernel_rfl
theorem V0w (w:World):(zeroValue 3).run prog w=.ok (.int .i64 0) w:=by kernel_rfl
theorem IntSet.made (w:World):IntSet (w.alloc (.map #[] 0)) w.heap.size 0 []:=
 ⟨_,World.ownsMap_made _ _ _ _,isMap_empty,fun _ _=>rfl⟩
theorem IntSet.lt {w:World} {b n:Nat} {S:List Int} (h:IntSet w b n S):b < w.heap.size:=by
 obtain ⟨D,h1,_⟩:=h;exact h1.lt
theorem IntSet.same {w w':World} {b n:Nat} {S:List Int} (h:IntSet w b n S) (e:w'.heap[b]? =w.heap[b]?):IntSet w' b n S:=by
 obtain ⟨D,⟨es,clock,hb,F,hs,hD⟩,h2⟩:=h;exact ⟨D,⟨es,clock,e.trans hb,F,hs,hD⟩,h2⟩
theorem IntSet.apart {w:World} {b n:Nat} {S:List Int} (h:IntSet w b n S) {B:Nat} {e:TypeId} {size m:Nat} {v:Value} {xs:List Value} (ho:w.ownsRow B e size v m xs):v.ownBlock≠some b:=by
 intro hk;obtain ⟨D,⟨es,clock,hb,_⟩,_⟩:=h;obtain ⟨cur,hc⟩:=P3 ho hk;rw [hc] at hb;cases hb
theorem Q9e {v:Value} {x:Bool} {ps:List MemPlace} (h:plainElem (H:=Unit) prog 4 v=some (.lit (.bool x),ps)):v=.bool x:=by
 unfold plainElem at h;rw [underlying4] at h;cases v<;>simp_all
theorem IntSet.look {w:World} {b n:Nat} {S:List Int} (h:IntSet w b n S) (d:Int) (hd:H7 d):
 (Instr.lookup 223 (.map (some b)) (.int .i64 d) false).run prog w=.ok (.bool (decide (d∈S))) w:=by
 obtain ⟨D,h1,h2,h3⟩:=h;obtain ⟨v,ps,ha,hR⟩:=h1.lookup Q0j underlying223 (Z3x w) (plainElem_bool underlying4 false) (X6d d hd);rw [h3 d hd] at hR;rw [ha,Q9e hR]
theorem IntSet.put {w:World} {b n:Nat} {S:List Int} (h:IntSet w b n S) (d:Int) (hd:H7 d) (hn:n < maxLen):
 ∃ w2,(Instr.mapUpdate 223 (.map (some b)) (.int .i64 d) (.bool true)).run prog w=.ok () w2∧IntSet w2 b (n+1) (S++[d])∧w.grownBy w2 (some b):=by
 obtain ⟨D,h1,h2,h3⟩:=h;have ha:=X6d d hd;obtain ⟨w2,hc,hb,hg⟩:=h1.update Q0j underlying223 hn ha (plainElem_bool (H:=Unit) underlying4 true);refine ⟨w2,hc,⟨_,hb,h2.put _ _,fun u hu=>?_⟩,hg⟩;by_cases e:u=d
 ·rw [e,atKey_put_same h2 (Q0j.key ha)];simp
 ·rw [atKey_put_other (fun e'=>e (by injection e'))];rw [h3 u hu];simp [e]
def IdMap (w:World) (b n:Nat) (lo hi:Int):Prop:=
 ∃ D:DataW Unit,w.ownsMap prog 3 (plainElem prog 3) b n D∧IsMap D∧∀ d:Int,H7 d→lo≤d→d≤hi→∀ z,D.atKey (.int .i64 d) z=.lit (.int .i64 d)
theorem IdMap.made (w:World) (hi:Int):IdMap (w.alloc (.map #[] 0)) w.heap.size 0 (hi+1) hi:=
 ⟨_,World.ownsMap_made _ _ _ _,isMap_empty,fun _ _ h1 h2=>yY⟩
theorem IdMap.lt {w:World} {b n:Nat} {lo hi:Int} (h:IdMap w b n lo hi):b < w.heap.size:=by
 obtain ⟨D,h1,_⟩:=h;exact h1.lt
theorem IdMap.same {w w':World} {b n:Nat} {lo hi:Int} (h:IdMap w b n lo hi) (e:w'.heap[b]? =w.heap[b]?):IdMap w' b n lo hi:=by
 obtain ⟨D,⟨es,clock,hb,F,hs,hD⟩,h2⟩:=h;exact ⟨D,⟨es,clock,e.trans hb,F,hs,hD⟩,h2⟩
theorem IdMap.apart {w:World} {b n:Nat} {lo hi:Int} (h:IdMap w b n lo hi) {B:Nat} {e:TypeId} {size m:Nat} {v:Value} {xs:List Value} (ho:w.ownsRow B e size v m xs):v.ownBlock≠some b:=by
 intro hk;obtain ⟨D,⟨es,clock,hb,_⟩,_⟩:=h;obtain ⟨cur,hc⟩:=P3 ho hk;rw [hc] at hb;cases hb
theorem IdMap.look {w:World} {b n:Nat} {lo hi:Int} (h:IdMap w b n lo hi) (d:Int) (hd:H7 d) (h1:lo≤d) (h2:d≤hi):
 (Instr.lookup 224 (.map (some b)) (.int .i64 d) true).run prog w=.ok (.tuple #[.int .i64 d,.bool true]) w:=by
 obtain ⟨D,ha,h3,h4⟩:=h;obtain ⟨v,ps,hb,hR⟩:=ha.look_ok Q0j underlying224 (V0w w) (plainElem_int underlying3 yX) (X6d d hd);rw [h4 d hd h1 h2] at hR;obtain ⟨a,rfl,hy,_⟩:=plainElem_int_inv underlying3 hR;injection hy with hy _;injection hy with hy;injection hy with _ hy;rw [hb,Maps.has_true_of_atKey (fun z=>h4 d hd h1 h2 z),←hy]
theorem IdMap.put {w:World} {b n:Nat} {lo hi:Int} (h:IdMap w b n (lo+1) hi) (hd:H7 lo) (hn:n < maxLen):
 ∃ w2,(Instr.mapUpdate 224 (.map (some b)) (.int .i64 lo) (.int .i64 lo)).run prog w=.ok () w2∧IdMap w2 b (n+1) lo hi∧w.grownBy w2 (some b):=by
 obtain ⟨D,h1,h2,h3⟩:=h;have ha:=X6d lo hd;have he:(Lit.int .i64 lo).wf=true:=by
  unfold keyOf at ha;rw [underlying3] at ha;simp [mapKey,underlying3] at ha;exact ha
 obtain ⟨w2,hc,hb,hg⟩:=h1.update Q0j underlying224 hn ha (plainElem_int (H:=Unit) underlying3 he);refine ⟨w2,hc,⟨_,hb,h2.put _ _,fun u hu e1 e2 z=>?_⟩,hg⟩;by_cases e:u=lo
 ·rw [e,atKey_put_same h2 (Q0j.key ha)]
 ·rw [atKey_put_other (fun e'=>e (by injection e'))];exact h3 u hu yY e2 z
end Go.Proofs.YtfkojnofbpdjdaaGreatDoor
namespace Go.Proofs.YtfkojnofbpdjdaaGreatDoor
open Tryz
open Go.RowKit
theorem Q0i (x:Int):∀ u∈V7 x,u.oneCell'=true:=by
 intro u hu;rw [aJ.1 hu];rfl
def V1a (x:Tk):Prop:=(x.k=1∨x.k=5)∨((x.k=2∨x.k=3∨x.k=4)∧H7 x.d)
theorem Z9e (x:Tk) (S:List Int):numsG [x] S=if N7 x∧x.d∉S then S++[x.d] else S:=by
 unfold numsG;split<;>rfl
theorem Z2e (f:List Tk) (k:Nat) (h:k < f.length):numsG (f.take (k+1)) []=numsG [f[k]] (numsG (f.take k) []):=by
 rw [aH h,L4]
theorem Q8o:∀ (f:List Tk) (S:List Int),(numsG f S).length≤S.length+f.length
 | [],S=>by simp [numsG]
 | x::f,S=>by
   unfold numsG;split
   ·have:=Q8o f (S++[x.d]);simp at this ⊢;omega
   ·have:=Q8o f S;simp;omega
theorem Y8n (f:List Tk) (v:Value) (w:World) (h:RdT w v f) (hl:f.length≤100000) (hk:∀ x∈f,V1a x):
 Calls prog 110 #[v] w (N6 3 V7 1 w (numsG f [])):=by
 obtain ⟨R,hw⟩:∃ R,yK (R=N6 3 V7 1 w (numsG f [])):=⟨_,rfl⟩;rw [←hw.o];obtain ⟨A,c,rfl,_,_⟩:=h.shape;have HF:=zW h;have HK:=zW hk;have hh:=zW (IntSet.made w);have hp:=zW ((aB w.heap.size w).alloc yQ (.map #[] 0));have hE:(Instr.makeMap 223 none).run prog w=.ok (.map (some w.heap.size)) (w.alloc (.map #[] 0)):=rfl;clear h hk;go_enter func110,ntmps110
 go_upto_region 3 with fail
 generalize hM:w.heap.size=M at hh ⊢;generalize w.alloc (.map #[] 0)=w0 at hh hp ⊢;have hG:w.heap.size≤M:=yY;clear hM hE;go_wp2_with fail
 go_loopg [3,10] f.length (fun gk ov iv wr=>∃ k n:Nat,iv=.int .i64 k∧k≤f.length∧n≤k∧yK (IntSet wr M n (numsG (f.take k) []))∧yK (OwnE 3 V7 1 wr w.heap.size ov (numsG (f.take k) []))∧yK (Below w.heap.size w wr)∧f.length - k≤gk)
 case atStart=>exact ⟨0,0,rfl,aO _,yQ,hh.o,OwnE.nil,hp.o,yQ⟩
 case round=>
  obtain ⟨k,n,rfl,hk,hn,HM,HO,HB,hgk⟩:=hrel;clear hh hp;by_cases hlt:k < f.length
  ·have hD:=HK.o _ (aL hlt);obtain ⟨b,o,rfl,hb,c0,c1,c2⟩:=RdT.at_ (HF.o.below HB.o yQ) k hlt;have HT:=zW (Z2e f k hlt);rw [Z9e] at HT;have hF:=Q8o (f.take k) [];have hI:(f.take k).length≤k:=yV;generalize f[k]=x at *;obtain ⟨xk,xt,xd⟩:=x;simp only at c0 c1 c2;have hf:=zW ((aB wr.heap.size wr).alloc yQ (.cells #[.int .i64 xk,.string xt,.int .i64 xd] 31));have hi:=HM.o.lt;have hz:=HB.o.size;rcases hD with hx | ⟨hk2,hin⟩
   ·have CT:=zW (fun w=>X6c xk xt xd w hx);have hS:numsG (f.take (k+1)) []=numsG (f.take k) []:=by
     rw [HT.o,aE];rintro ⟨h1,_⟩;rcases hx with h | h<;>rcases h1 with h1 | h1 | h1<;>exact absurd (h.symm.trans h1) yX
    have HS:=zW hS;clear hS HT;generalize numsG (f.take k) []=S0 at *;go_wp2_with (go_at_call 76;refine (CT.o _).mono ?_;rintro e w1 ⟨rfl,hc⟩;have ha:=zW (hf.o.trans (hc.mono hf.o.size));clear hc)
    go_roundg (f.length - (k+1))
    case measure=>omega
    case rel=>
     refine ⟨k+1,n,rfl,hlt,yY,?_,?_,HB.o.trans (ha.o.mono hz),yQ⟩
     ·rw [HS.o];exact HM.o.same (ha.o.block M hi)
     ·rw [HS.o];exact Q7 HO.o fun j hj=>ha.o.block j (HO.o.lt j hj).2
   ·have CT:=zW (fun w=>Q6y xk xt xd w hk2);by_cases hmem:xd∈numsG (f.take k) []
    ·have hS:numsG (f.take (k+1)) []=numsG (f.take k) []:=by
      rw [HT.o,aE];rintro ⟨_,h2⟩;exact h2 hmem
     have HS:=zW hS;clear hS HT;generalize numsG (f.take k) []=S0 at *;go_wp2_with (go_at_call 76;refine (CT.o _).mono ?_;rintro e w1 ⟨rfl,hc⟩;have ha:=zW (hf.o.trans (hc.mono hf.o.size));have e2:w1.cell? ⟨wr.heap.size,2,none⟩=some (.int .i64 xd):=(hc.cell yW).trans yU;have hu:=(HM.o.same (ha.o.block M hi)).look xd hin;rw [cR hmem] at hu;clear hc)
     go_roundg (f.length - (k+1))
     case measure=>omega
     case rel=>
      refine ⟨k+1,n,rfl,hlt,yY,?_,?_,HB.o.trans (ha.o.mono hz),yQ⟩
      ·rw [HS.o];exact HM.o.same (ha.o.block M hi)
      ·rw [HS.o];exact Q7 HO.o fun j hj=>ha.o.block j (HO.o.lt j hj).2
    ·have hS:numsG (f.take (k+1)) []=numsG (f.take k) []++[xd]:=by
      rw [HT.o];exact aK ⟨hk2,hmem⟩
     have HS:=zW hS;have hH:(numsG (f.take k) []).length≤100000:=(by simp at hF;omega);clear hS HT;obtain ⟨A3,c3,rfl⟩:=Q0 HO.o;generalize numsG (f.take k) []=S0 at *;go_wp2_with (first
      | (go_at_call 76;refine (CT.o _).mono ?_;rintro e w1 ⟨rfl,hc⟩;have ha:=zW (hf.o.trans (hc.mono hf.o.size));have e2:w1.cell? ⟨wr.heap.size,2,none⟩=some (.int .i64 xd):=(hc.cell yW).trans yU;have hr:=zW (HM.o.same (ha.o.block M hi));have hu:=hr.o.look xd hin;rw [cD hmem] at hu;have ht:=zW (Q7 HO.o fun j hj=>ha.o.block j (HO.o.lt j hj).2);obtain ⟨w2,hJ,ho,hm⟩:=hr.o.put xd hin (Nat.lt_of_le_of_lt (show n≤100000 by omega) yX);have hs:yK (IntSet (w2.alloc (.cells #[.int .i64 xd] 3)) M (n+1) (S0++[xd])):=zW (ho.same (bE w2 (.cells #[.int .i64 xd] 3) M ho.lt));have hC:M < w2.heap.size:=ho.lt;have hv:=zW (Q7 ht.o fun j hj=>hm.block j (ht.o.lt j hj).2 (fun e=>hr.o.apart ht.o (by rw [hj];exact e)));have e3:w2.cell? ⟨wr.heap.size,2,none⟩=some (.int .i64 xd):=(dX (w:=w1) (hm.block wr.heap.size (bC yW hc.size) (fun e=>by injection e with e;omega))).trans e2;have hq:=zW ((HB.o.trans (ha.o.mono hz)).grown hm (aP hz ha.o.size) (fun j hj=>by injection hj with hj;omega));clear hc ho hm)
      | go_loud (at_builtin;refine V2 rfl (.tmp 26) (.tmp 29) 22 3 rfl underlying22 _ V7 1 8 C9 rfl yX K6 Q0i w.heap.size _ S0 rfl (by exact aD hv.o _) _ [xd] rfl (by exact Z3 V7 1 K6 _ _ rfl xd _) yV yX (by have:=hq.o.size;simp;omega) ?_;intro v8 w8 he hd hg;have hB:=zW he;have hy:=zW (hd w.heap.size w yQ (hq.o.alloc hq.o.size _));have hA:=zW (hs.o.same (hg.block M hs.o.lt (fun e=>hs.o.apart (aD hv.o (.cells #[.int .i64 xd] 3)) e.symm)));clear he hd hg))
     go_roundg (f.length - (k+1))
     case measure=>omega
     case rel=>
      refine ⟨k+1,n+1,rfl,hlt,yY,?_,?_,hy.o,yQ⟩
      ·rw [HS.o];exact hA.o
      ·rw [HS.o];exact hB.o
  ·obtain rfl:k=f.length:=yY;rw [aW] at HO;obtain ⟨A2,c2,rfl⟩:=Q0 HO.o;go_wp2_with fail
   first | go_ret | skip
   rw [hw.o];exact ⟨_,rfl,HO.o,HB.o⟩
theorem Z8g:(prog.info? 3).map (fun i=>(i.zero,i.size,i.bytes))=some (some (.int .i64 0),1,8):=by kernel_rfl
theorem Y6n (n i:Nat) (x:Int) (h:(Q1v n)[i]? =some x):i < n∧x=(i:Int)+1:=by
 unfold Q1v at h;rw [cE] at h;by_cases hi:i < n
 ·rw [List.getElem?_range hi] at h;simp at h;exact ⟨hi,yY⟩
 ·rw [dF (by simpa using hi)] at h;cases h
theorem Y3p (n:Nat) (hn:n≤100000) (w:World):
 Calls prog 112 #[.int .i64 n] w (fun e w'=>∃ v,e=.returned v∧RdE V7 1 w' v (Q1v n)∧Below w.heap.size w w'):=by
 obtain ⟨R,ha⟩:∃ R:Ending→World→Prop,yK (R=fun e w'=>∃ v,e=.returned v∧RdE V7 1 w' v (Q1v n)∧Below w.heap.size w w'):=⟨_,rfl⟩;rw [←ha.o];have he:=fun w=>run_make_row' (P:=prog) 22 3 (.int .i64 0) 8 underlying22 Z8g rfl .i64 .i64 n yY yY w;go_enter func112,ntmps112
 go_wp2_with fail
 go_loopg [9] n (fun gk iv wr=>∃ k:Nat,iv=.int .i64 k∧k≤n∧yK (wr.rowIs w.heap.size 3 n (fun j=>.int .i64 (if j < k then (j:Int)+1 else 0)))∧yK (Below w.heap.size w wr)∧n - k≤gk)
 case atStart=>
  refine ⟨0,rfl,aO _,?_,(aB _ _).alloc yQ _,yQ⟩;exact (fJ w (.int .i64 0) n 3).congr fun j _=>rfl
 case round=>
  obtain ⟨k,rfl,hk,HR,HB,hgk⟩:=hrel;by_cases hlt:k < n
  ·have rf:=HR.o.frozen k;have r0:=HR.o.cell (i:=k) hlt;have hc:=zW ((HR.o.set k (.int .i64 ((k:Int)+1))).congr (g:=fun j=>.int .i64 (if j < k+1 then (j:Int)+1 else 0)) fun j _=>by
    by_cases h1:j=k
    ·rw [aK h1,h1,aK (Nat.lt_succ_self _)]
    ·rw [aE h1];by_cases h2:j < k
     ·rw [aK h2,aK yY]
     ·rw [aE h2,aE yY])
   have hb:=zW (HB.o.setCell (p:=⟨w.heap.size,k,none⟩) yQ (.int .i64 ((k:Int)+1)));go_wp2_with fail
   go_roundg (n - (k+1))
   case measure=>omega
   case rel=>exact ⟨k+1,rfl,hlt,hc.o,hb.o,yQ⟩
  ·obtain rfl:k=n:=yY;go_wp2_with fail
   first | go_ret | skip
   rw [ha.o];refine ⟨_,rfl,⟨some ⟨w.heap.size,0,none⟩,k,by rw [Q1b];rfl,by rw [Q1b];exact yQ,(fun h=>by cases h),fun _=>⟨w.heap.size,0,rfl,HR.o.lt,fun i x j u hi hj=>?_⟩⟩,HB.o⟩;obtain ⟨h1,h2⟩:=Y6n _ _ _ hi;have hd:j=0:=by
    have:=(aM.1 hj).1;simpa [V7] using this
   subst hd;have:=HR.o.cell (i:=i) h1;rw [aK h1] at this;simp [V7] at hj;rw [show 0+(i * 1+0)=i by omega,this,←hj,h2]
theorem Q3a {w:World} {A:Option Addr} {n c:Nat} {l:List Int} (h:RdE V7 1 w (.slice A n c) l) (k:Nat) (hk:k < l.length):∃ b o,A=some ⟨b,o,none⟩∧b < w.heap.size∧w.cell? ⟨b,o+k,none⟩=some (.int .i64 l[k]):=by
 obtain ⟨b,o,hA,hb,hx⟩:=RdE.cells h yY;refine ⟨b,o,hA,hb,?_⟩;have:=hx k _ 0 _ (aF hk) rfl;simpa using this
theorem V7j (n k:Nat) (h:k < (Q1v n).length):(Q1v n)[k]=(k:Int)+1:=(Y6n n k _ (aF h)).2
def KindT (n:Nat) (x:Tk):Prop:=(x.k=1∨x.k=5)∨((x.k=2∨x.k=3∨x.k=4)∧1≤x.d∧x.d≤(n:Int))
theorem Z2t (f:List Tk) (n:Nat) (v va vb:Value) (w:World) (h:RdT w v f) (ha:RdE V7 1 w va (Q1v n)) (hb:RdE V7 1 w vb (Q1v n)) (hl:f.length≤100000) (hlw:X3 f≤1000000) (hn:n≤100000) (hk:∀ x∈f,KindT n x):
 Calls prog 111 #[v,va,vb] w (N6 31 tkC 3 w (Q4 f)):=by
 obtain ⟨R,hJ⟩:∃ R,yK (R=N6 31 tkC 3 w (Q4 f)):=⟨_,rfl⟩;rw [←hJ.o];obtain ⟨A,c,rfl,_,_⟩:=h.shape;obtain ⟨A1,c1,rfl,_,_⟩:=ha.shape;obtain ⟨A2,c2,rfl,_,_⟩:=hb.shape;rw [Q1b];rw [Q1b] at ha hb;have HF:=zW h;have HA:=zW ha;have hN:=zW hb;have HK:=zW hk;have hu:=zW (IdMap.made w (n:Int));have hw:=zW ((aB w.heap.size w).alloc yQ (.map #[] 0));have hU:(Instr.makeMap 224 none).run prog w=.ok (.map (some w.heap.size)) (w.alloc (.map #[] 0)):=rfl;clear h hk ha hb;go_enter func111,ntmps111
 go_upto_region 2 with fail
 generalize hM:w.heap.size=M at hu ⊢;generalize w.alloc (.map #[] 0)=w0 at hu hw ⊢;have hV:w.heap.size≤M:=yY;clear hM hU;go_wp2_with fail
 go_loopg [8] n (fun gk iv wr=>∃ j m:Nat,iv=.int .i64 ((j:Int) - 1)∧j≤n∧m+j≤n∧yK (IdMap wr M m ((j:Int)+1) n)∧yK (Below w.heap.size w wr)∧j≤gk)
 case atStart=>exact ⟨n,0,rfl,yQ,yY,hu.o,hw.o,yQ⟩
 case round=>
  obtain ⟨j,m,rfl,hj,hX,HM,HB,hgk⟩:=hrel;clear hu hw;cases j with
  | zero=>
    rw [show ((0:Nat):Int)+1=1 from rfl] at HM;go_wp2_with fail
    go_loopg [9,36] f.length (fun gk ov iv wr=>∃ k:Nat,iv=.int .i64 k∧k≤f.length∧yK (IdMap wr M m 1 n)∧yK (OwnT 31 wr w.heap.size ov (f.take k))∧yK (Below w.heap.size w wr)∧f.length - k≤gk)
    case atStart=>exact ⟨0,rfl,aO _,HM.o,OwnE.nil,HB.o,yQ⟩
    case round=>
     obtain ⟨k,rfl,hk,hv,HO,ho,hR⟩:=hrel;clear HM HB;by_cases hlt:k < f.length
     ·have hT:=HK.o _ (aL hlt);obtain ⟨b,o,rfl,hb,c0,c1,c2⟩:=RdT.at_ (HF.o.below ho.o yQ) k hlt;have HT:yK (f.take (k+1)=f.take k++[f[k]]):=aH hlt;have hY:(f.take k).length≤100000:=yV;generalize f[k]=x at *;generalize f.take k=F0 at *;obtain ⟨xk,xt,xd⟩:=x;simp only at c0 c1 c2;have hs:=zW ((aB wr.heap.size wr).alloc yQ (.cells #[.int .i64 xk,.string xt,.int .i64 xd] 31));have hq:=hv.o.lt;have hz:=ho.o.size;obtain ⟨A3,c3,rfl⟩:=Q0 HO.o;rcases hT with hk1 | ⟨hk2,hE,hF⟩
      ·have CT:=zW (fun w=>X6c xk xt xd w hk1);go_wp2_with (first
        | (go_at_call 76;refine (CT.o _).mono ?_;rintro e w1 ⟨rfl,he⟩;have ht:=zW (hs.o.trans (he.mono hs.o.size));have e0:w1.cell? ⟨wr.heap.size,0,none⟩=some (.int .i64 xk):=(he.cell yW).trans yU;have e1:w1.cell? ⟨wr.heap.size,1,none⟩=some (.string xt):=(he.cell yW).trans yU;have e2:w1.cell? ⟨wr.heap.size,2,none⟩=some (.int .i64 xd):=(he.cell yW).trans yU;have hg:=zW (ht.o);have hh:=zW (ho.o.trans (hg.o.mono hz));have hm:yK (IdMap (w1.alloc (.cells (tkC ⟨xk,xt,xd⟩).toArray 31)) M m 1 n):=zW ((hv.o.same (hg.o.block M hq)).same (bE _ (.cells (tkC ⟨xk,xt,xd⟩).toArray 31) M (bC hq hg.o.size)));have hp:=zW (Q7 HO.o fun j hj=>hg.o.block j (HO.o.lt j hj).2);clear he)
        | (at_builtin;refine V2 rfl (.tmp 53) (.tmp 55) 24 31 rfl underlying24 _ tkC 3 32 Z8 rfl yX Q5 D4 w.heap.size _ F0 rfl (by exact aD hp.o _) _ [⟨xk,xt,xd⟩] rfl (by exact Z3 tkC 3 Q5 _ _ rfl ⟨xk,xt,xd⟩ _) yV yX (by have:=hh.o.size;simp at this ⊢;omega) ?_;intro v8 w8 hd hc hf;have hC:=zW hd;have hy:=zW (hc w.heap.size w yQ (hh.o.alloc hh.o.size _));have hA:=zW (hm.o.same (hf.block M hm.o.lt (fun e=>hm.o.apart (aD hp.o (.cells (tkC ⟨xk,xt,xd⟩).toArray 31)) e.symm)));clear hd hc hf))
       go_roundg (f.length - (k+1))
       case measure=>omega
       case rel=>
        refine ⟨k+1,rfl,hlt,hA.o.same rfl,?_,hy.o,yQ⟩;rw [HT.o];exact hC.o
      ·have CT:=zW (fun w=>Q6y xk xt xd w hk2);have hE:1≤xd:=hE;have hF:xd≤(n:Int):=hF;have hG:H7 xd:=(by unfold H7;omega);go_wp2_with (first
        | (go_at_call 76;refine (CT.o _).mono ?_;rintro e w1 ⟨rfl,he⟩;have ht:=zW (hs.o.trans (he.mono hs.o.size));have e0:w1.cell? ⟨wr.heap.size,0,none⟩=some (.int .i64 xk):=(he.cell yW).trans yU;have e1:w1.cell? ⟨wr.heap.size,1,none⟩=some (.string xt):=(he.cell yW).trans yU;have e2:w1.cell? ⟨wr.heap.size,2,none⟩=some (.int .i64 xd):=(he.cell yW).trans yU;have fr2:w1.frozen? ⟨wr.heap.size,2,none⟩=false:=(he.frozen yW).trans yU;have hW:=(hv.o.same (ht.o.block M hq)).look xd hG hE hF;have hg:=zW (ht.o.setCell (p:=⟨wr.heap.size,2,none⟩) yQ (.int .i64 xd));have hh:=zW (ho.o.trans (hg.o.mono hz));have hm:yK (IdMap ((w1.setCell ⟨wr.heap.size,2,none⟩ (.int .i64 xd)).alloc (.cells (tkC ⟨xk,xt,xd⟩).toArray 31)) M m 1 n):=zW ((hv.o.same (hg.o.block M hq)).same (bE _ (.cells (tkC ⟨xk,xt,xd⟩).toArray 31) M (bC hq hg.o.size)));have hp:=zW (Q7 HO.o fun j hj=>hg.o.block j (HO.o.lt j hj).2);clear he)
        | (at_builtin;refine V2 rfl (.tmp 53) (.tmp 55) 24 31 rfl underlying24 _ tkC 3 32 Z8 rfl yX Q5 D4 w.heap.size _ F0 rfl (by exact aD hp.o _) _ [⟨xk,xt,xd⟩] rfl (by exact Z3 tkC 3 Q5 _ _ (by simp [World.setCell]) ⟨xk,xt,xd⟩ _) yV yX (by have:=hh.o.size;simp at this ⊢;omega) ?_;intro v8 w8 hd hc hf;have hC:=zW hd;have hy:=zW (hc w.heap.size w yQ (hh.o.alloc hh.o.size _));have hA:=zW (hm.o.same (hf.block M hm.o.lt (fun e=>hm.o.apart (aD hp.o (.cells (tkC ⟨xk,xt,xd⟩).toArray 31)) e.symm)));clear hd hc hf))
       go_roundg (f.length - (k+1))
       case measure=>omega
       case rel=>
        refine ⟨k+1,rfl,hlt,hA.o.same rfl,?_,hy.o,yQ⟩;rw [HT.o];exact hC.o
     ·obtain rfl:k=f.length:=yY;rw [aW] at HO;have hP:=zW (X4f f _ _ (HO.o.rd Q5) hl hlw);obtain ⟨A3,c3,rfl⟩:=Q0 HO.o;have hz:=ho.o.size;go_wp2_with (go_at_call 104;refine (hP.o).mono ?_;rintro e w2 ⟨v2,rfl,hH,hD⟩;obtain ⟨A4,c4,rfl⟩:=Q0 hH;have hQ:=zW (Y3 hH hz);have hx:=zW (ho.o.trans (hD.mono hz));clear hH hD)
      first | go_ret | skip
      rw [hJ.o];exact ⟨_,rfl,hQ.o,hx.o⟩
  | succ j=>
    have hL:j < (Q1v n).length:=(by rw [Q1b];omega);obtain ⟨b1,o1,rfl,he,c1⟩:=Q3a (HA.o.below HB.o yQ) j hL;obtain ⟨b2,o2,rfl,hD,c2⟩:=Q3a (hN.o.below HB.o yQ) j hL;rw [V7j] at c1 c2;rw [show ((j+1:Nat):Int) - 1=(j:Int) by omega];have hG:H7 ((j:Int)+1):=(by unfold H7;omega);have hB:=HM.o;rw [show (((j+1:Nat):Int)+1)=((j:Int)+1)+1 by omega] at hB;have hI:IdMap wr.drew M m (((j:Int)+1)+1) n:=hB.same rfl;obtain ⟨w2,hZ,hr,hK⟩:=hI.put hG (Nat.lt_of_le_of_lt (show m≤100000 by omega) yX);have hO:=zW hr;have hz:=HB.o.size;have hx:=zW (HB.o.drew.grown hK hz (fun i hi=>by injection hi with hi;omega));have hS:j < n:=yY;clear hB hI hr hK;go_wp2_with fail
    go_region
    all_goals (
     go_wp2_with fail
     go_roundg j
     case measure=>omega
     case rel=>
      refine ⟨j,m+1,rfl,yY,yY,hO.o,hx.o,yQ⟩)
theorem KindT.ok {n:Nat} {x:Tk} (hn:n≤100000) (h:KindT n x):V1a x:=by
 rcases h with h | ⟨h,h1,h2⟩
 ·exact .inl h
 ·exact .inr ⟨h,by unfold H7;omega⟩
theorem Y4z (f:List Tk) (n:Nat) (v:Value) (w:World) (h:RdT w v f) (hl:f.length≤100000) (hlw:X3 f≤1000000) (hn:n≤100000) (hk:∀ x∈f,KindT n x) (hnum:numsG f []=Q1v n):
 Calls prog 70 #[v] w (N6 31 tkC 3 w (Q4 f)):=by
 have CN:=zW (Y8n f v w h hl fun x hx=>(hk x hx).ok hn);rw [hnum] at CN;obtain ⟨A,c,rfl,_,_⟩:=h.shape;have HF:=zW h;have CC:=zW (fun w=>Y3p n hn w);have CR:=zW (fun (va vb:Value) (w':World) (h:RdT w' (.slice A f.length c) f) (ha:RdE V7 1 w' va (Q1v n)) (hb:RdE V7 1 w' vb (Q1v n))=>Z2t f n _ va vb w' h ha hb hl hlw hn hk);clear h hk hnum;go_enter func70,ntmps70
 go_wp2_with (first
  | (go_at_call 110;refine (CN.o).mono ?_;rintro e w1 ⟨v1,rfl,hf,hm⟩;obtain ⟨A1,c1,rfl⟩:=Q0 hf;have hj:=zW (hf.rd K6);have hi:=zW hm;rw [Q1b];rw [Q1b] at hj;clear hf hm)
  | (go_at_call 112;refine (CC.o _).mono ?_;rintro e w2 ⟨v2,rfl,hg,he⟩;obtain ⟨A2,c2,rfl,_,_⟩:=RdE.shape hg;have hq:=zW hg;have hc:=zW (hi.o.trans (he.mono hi.o.size));have hd:=zW (hj.o.below he yQ);clear hg he)
  | (go_at_call 111;refine (CR.o _ _ _ (by exact HF.o.below hc.o yQ) (by exact hd.o) (by exact hq.o)).mono ?_;rintro e w3 ⟨v3,rfl,hh,ho⟩;obtain ⟨A3,c3,rfl⟩:=Q0 hh;have hr:=zW (Y3 hh hc.o.size);have hp:=zW (hc.o.trans (ho.mono hc.o.size));clear hh ho))
 go_ret
 exact ⟨_,rfl,hr.o,hp.o⟩
def Y0x (m fmt:Int) (data:fY) (ps:List Pt):Prop:=∀ w:World,w.cell? ⟨0,0,none⟩=some (.int .i64 m)→Calls prog (U4a fmt) #[.string data] w (D6 ps w)
def Y0w (m fmt:Int) (raw:fY) (f:List Tk):Prop:=∀ w:World,w.cell? ⟨0,0,none⟩=some (.int .i64 m)→Calls prog (U0p fmt) #[.string raw] w (X0r f w)
def U0j (m fmt:Int) (raw:fY) (l:List Int):Prop:=∀ w:World,w.cell? ⟨0,0,none⟩=some (.int .i64 m)→Calls prog (U0n fmt) #[.string raw] w (Q5c l w)
def U0k (m fmt:Int) (f:List Tk) (s:fY):Prop:=∀ (A:Option Addr) (c:Nat) (w:World),w.cell? ⟨0,0,none⟩=some (.int .i64 m)→RdT w (.slice A f.length c) f→Calls prog (U0s fmt) #[.slice A f.length c] w (Q5d s w)
def Z0s (fmt:Int) (ps:List Pt) (w:World) (e:Ending) (w':World):Prop:=
 ∃ A c,e=.returned (.tuple #[.agg #[.int .i64 fmt,.slice A ps.length c],.int .i64 0,.int .i64 0])∧OwnE 52 ptC 3 w' w.heap.size (.slice A ps.length c) ps∧Below w.heap.size w w'
theorem Y9k {fn:Func} {p u v:Tmp} (h:fn.results=#[.cell p 41,.tmp u,.tmp v]) (tmps:Array Value) (w:World) (g:Nat) (k:Int) (A:Option Addr) (n c:Nat) (x y:Value) (hp:tmps.getD p undef=.pointer (some ⟨g,0,none⟩)) (hu:tmps.getD u undef=x) (hv:tmps.getD v undef=y)
 (c0:w.cell? ⟨g,0,none⟩=some (.int .i64 k)) (c1:w.cell? ⟨g,1,none⟩=some (.slice A n c)):
 (results fn tmps).run prog w=.ok (.tuple #[.agg #[.int .i64 k,.slice A n c],x,y]) w:=by
 rw [Q3p h,hp,hu,hv];go_simp
theorem X7i (m fmt:Int) (hf:D1 fmt) (data:fY) (ps:List Pt) (h:Y0x m fmt data ps) (w:World) (hm:w.cell? ⟨0,0,none⟩=some (.int .i64 m)):
 Calls prog 28 #[.int .i64 fmt,.string data] w (Z0s fmt ps w):=by
 have CK:=zW (fun w=>X4b fmt hf w);have CS:=zW (fun w hm=>V0m fmt hf data ps w (h w hm));have HM:=zW hm;have HA:=zW ((aB w.heap.size w).alloc yQ (.cells #[.int .i64 0,.slice none 0 0] 41));clear h hm;go_enter func28,ntmps28
 go_wp2_with (first
  | (go_at_call 55;refine (CK.o _).mono ?_;rintro e w' ⟨rfl,rfl⟩)
  | (go_at_call 57;refine (CS.o _ (by exact X8 HM.o HA.o)).mono ?_;rintro e w1 ⟨v,rfl,ho,hb⟩;obtain ⟨A,c,rfl⟩:=Q0 ho;have HO:=zW ho;have HB:=zW (HA.o.trans (hb.mono HA.o.size));have q0:w1.cell? ⟨w.heap.size,0,none⟩=some (.int .i64 0):=(hb.cell yW).trans yU;have q1:w1.cell? ⟨w.heap.size,1,none⟩=some (.slice none 0 0):=(hb.cell yW).trans yU;have y0:w1.frozen? ⟨w.heap.size,0,none⟩=false:=(hb.frozen yW).trans yU;have y1:w1.frozen? ⟨w.heap.size,1,none⟩=false:=(hb.frozen yW).trans yU;clear hb ho))
 refine bO (Y9k rfl _ _ w.heap.size fmt A ps.length c _ _ rfl rfl rfl yU yU) rfl ?_;refine ⟨A,c,rfl,Y3 (Q7 HO.o fun k hk=>?_) HA.o.size,(HB.o.setCell (p:=⟨w.heap.size,0,none⟩) yQ _).setCell (p:=⟨w.heap.size,1,none⟩) yQ _⟩;have ha:=(HO.o.lt k hk).1;have hc:k≠w.heap.size:=by
  intro e;rw [e] at ha;simp at ha;omega
 rw [aV _ _ _ _ hc,aV _ _ _ _ hc]
def D5:List Pt→Nat→List Int
 | [],_=>[]
 | p::ps,i=>if p.un=true then (i:Int)::D5 ps (i+1) else D5 ps (i+1)
theorem Y0a:∀ (a b:List Pt) (i:Nat),D5 (a++b) i=D5 a i++D5 b (i+a.length)
 | [],b,i=>by simp [D5]
 | p::a,b,i=>by
   rw [aR,D5,D5,Y0a a b (i+1),aG,show i+1+a.length=i+(a.length+1) by omega];split<;>rfl
theorem Z0o (ps:List Pt) (k:Nat) (h:k < ps.length):D5 (ps.take (k+1)) 0=if ps[k].un=true then D5 (ps.take k) 0++[(k:Int)] else D5 (ps.take k) 0:=by
 rw [aH h,Y0a,bI];have hl:(ps.take k).length=k:=yV;rw [hl,D5];split
 ·simp [D5]
 ·simp [D5]
theorem Q5z:∀ (ps:List Pt) (i:Nat),(D5 ps i).length≤ps.length
 | [],i=>by simp [D5]
 | p::ps,i=>by
   rw [D5];have:=Q5z ps (i+1);split<;>simp<;>omega
theorem Y3b (fmt:Int) (ps:List Pt) (A:Option Addr) (c:Nat) (w:World) (h:RdE ptC 3 w (.slice A ps.length c) ps) (hl:ps.length≤100000):
 Calls prog 26 #[.agg #[.int .i64 fmt,.slice A ps.length c]] w (N6 3 V7 1 w (D5 ps 0)):=by
 obtain ⟨R,hh⟩:∃ R,yK (R=N6 3 V7 1 w (D5 ps 0)):=⟨_,rfl⟩;rw [←hh.o];have HP:=zW h;have hg:=zW ((aB w.heap.size w).alloc yQ (.cells #[.int .i64 fmt,.slice A ps.length c] 41));clear h;go_enter func26,ntmps26
 go_wp2_with fail
 go_loopg [3,9] ps.length (fun gk ov iv wr=>∃ k:Nat,iv=.int .i64 k∧k≤ps.length∧yK (OwnE 3 V7 1 wr w.heap.size ov (D5 (ps.take k) 0))∧yK (Below w.heap.size w wr)∧ps.length - k≤gk)
 case atStart=>exact ⟨0,rfl,aO _,OwnE.nil,hg.o,yQ⟩
 case round=>
  obtain ⟨k,rfl,hk,HO,HB,hgk⟩:=hrel;clear hg;by_cases hlt:k < ps.length
  ·obtain ⟨b,o,rfl,hb,c0,c1,c2⟩:=RdP.at_ (HP.o.below HB.o yQ) k hlt;have HT:=zW (Z0o ps k hlt);have hm:=Q5z (ps.take k) 0;have hn:(ps.take k).length≤k:=yV;have ho:(D5 (ps.take k) 0).length≤100000:=yY;clear hm hn;generalize D5 (ps.take k) 0=S0 at *;generalize ps[k].raw=x2 at *;generalize ps[k].key=x1 at *;have hz:=HB.o.size;cases hun:ps[k].un with
   | false=>
     rw [hun] at c0 HT;have he:yK (D5 (ps.take (k+1)) 0=S0):=HT.o;have HA:=zW (HB.o.alloc hz (.cells #[.bool false,.string x1,.string x2] 52));have hd:=zW (aD HO.o (.cells #[.bool false,.string x1,.string x2] 52));clear HT hun;go_wp2_with fail
     go_roundg (ps.length - (k+1))
     case measure=>omega
     case rel=>
      refine ⟨k+1,rfl,hlt,?_,HA.o,yQ⟩;rw [he.o];exact hd.o
   | true=>
     rw [hun] at c0 HT;have he:yK (D5 (ps.take (k+1)) 0=S0++[(k:Int)]):=HT.o;have HA:=zW ((HB.o.alloc hz (.cells #[.bool true,.string x1,.string x2] 52)).alloc yV (.cells #[.int .i64 k] 3));have hd:=zW (aD (aD HO.o (.cells #[.bool true,.string x1,.string x2] 52)) (.cells #[.int .i64 k] 3));obtain ⟨A3,c3,rfl⟩:=Q0 HO.o;clear HT hun;go_wp2_with (at_builtin;refine V2 rfl (.tmp 16) (.tmp 18) 22 3 rfl underlying22 _ V7 1 8 C9 rfl yX K6 Q0i w.heap.size _ S0 rfl (by exact hd.o) _ [(k:Int)] rfl (by exact Z3 V7 1 K6 _ _ yW (k:Int) _) yV yX HA.o.size ?_;intro v8 w8 hc ha hf;have hj:=zW hc;have hi:=zW (ha w.heap.size w yQ HA.o);clear hc ha hf)
     go_roundg (ps.length - (k+1))
     case measure=>omega
     case rel=>
      refine ⟨k+1,rfl,hlt,?_,hi.o,yQ⟩;rw [he.o];exact hj.o
  ·obtain rfl:k=ps.length:=yY;rw [aW] at HO;obtain ⟨A2,c2,rfl⟩:=Q0 HO.o;go_wp2_with fail
   first | go_ret | skip
   rw [hh.o];exact ⟨_,rfl,HO.o,HB.o⟩
section
variable {X S U:Type}
theorem Y7m (step:List U×S→X→List U×S) (h:∀ l s t x,step (l++s,t) x=(l++(step (s,t) x).1,(step (s,t) x).2)):∀ (xs:List X) (l s:List U) (t:S),xs.foldl step (l++s,t)=(l++(xs.foldl step (s,t)).1,(xs.foldl step (s,t)).2)
 | [],_,_,_=>rfl
 | x::xs,l,s,t=>by rw [bQ,bQ,h,Y7m step h xs]
theorem X7s (step:List U×S→X→List U×S) (h:∀ l s t x,step (l++s,t) x=(l++(step (s,t) x).1,(step (s,t) x).2)) (A B:List X) (x:X) (u:U) (s0:List U×S) (t':S) (hx:step (A.foldl step s0) x=((A.foldl step s0).1++[u],t')):
 (A++x::B).foldl step s0=((A.foldl step s0).1++u::(B.foldl step ([],t')).1,(B.foldl step ([],t')).2):=by
 rw [dY,bQ,hx];have:=Y7m step h B ((A.foldl step s0).1++[u]) [] t';rw [aX] at this;rw [this,aZ];rfl
theorem Z6p (a b:List U) (u u':U):(a++u::b).set a.length u'=a++u'::b:=by
 rw [eZ _ _ yQ,cZ];rfl
end
theorem Z3l (l s:List Un) (t:List UInt8) (x:MK):G1 (l++s,t) x=(l++(G1 (s,t) x).1,(G1 (s,t) x).2):=by
 cases x<;>simp [G1]
theorem Z3m (l s:List Un) (t:List UInt8) (x:RL):O6 (l++s,t) x=(l++(O6 (s,t) x).1,(O6 (s,t) x).2):=by
 cases x<;>simp [O6]
theorem Z3n (l s:List Un) (t:List UInt8) (x:Rc):O7 (l++s,t) x=(l++(O7 (s,t) x).1,(O7 (s,t) x).2):=by simp [O7]
theorem X6w:∀ (ms:List MK) (k:Nat),k < E6 ms→∃ A t key ts B,ms=A++MK.blk t key ts::B∧E6 A=k
 | [],k,h=>by simp [E6] at h
 | .blk t key ts::ms,0,_=>⟨[],t,key,ts,ms,rfl,rfl⟩
 | .blk t key ts::ms,k+1,h=>by
   obtain ⟨A,t',k',ts',B,e,hA⟩:=X6w ms k (by rw [E6] at h;omega);exact ⟨.blk t key ts::A,t',k',ts',B,by rw [e];rfl,by rw [E6,hA]⟩
 | .byte c::ms,k,h=>by
   obtain ⟨A,t',k',ts',B,e,hA⟩:=X6w ms k h;exact ⟨.byte c::A,t',k',ts',B,by rw [e];rfl,hA⟩
 | .note::ms,k,h=>by
   obtain ⟨A,t',k',ts',B,e,hA⟩:=X6w ms k h;exact ⟨.note::A,t',k',ts',B,by rw [e];rfl,hA⟩
 | .tag c::ms,k,h=>by
   obtain ⟨A,t',k',ts',B,e,hA⟩:=X6w ms k h;exact ⟨.tag c::A,t',k',ts',B,by rw [e];rfl,hA⟩
theorem Y5p:∀ (ls:List RL) (k:Nat),k < (Z1 ls).length→∃ A key ts B,ls=A++RL.unit key ts::B∧(Z1 A).length=k
 | [],k,h=>by simp [Z1] at h
 | .unit key ts::ls,0,_=>⟨[],key,ts,ls,rfl,rfl⟩
 | .unit key ts::ls,k+1,h=>by
   obtain ⟨A,k',ts',B,e,hA⟩:=Y5p ls k (by
    rw [show Z1 (.unit key ts::ls)=key::Z1 ls from rfl,aG] at h;omega)
   exact ⟨.unit key ts::A,k',ts',B,by rw [e];rfl,by rw [show Z1 (.unit key ts::A)=key::Z1 A from rfl,aG,hA]⟩
 | .skip l::ls,k,h=>by
   obtain ⟨A,k',ts',B,e,hA⟩:=Y5p ls k h;exact ⟨.skip l::A,k',ts',B,by rw [e];rfl,hA⟩
theorem Q4h:∀ (A B:List MK) (t key:List UInt8) (ts ts':Els) (k:Nat),Q0b k (A++.blk t key ts::B)→Q0b k (A++.blk t key ts'::B)
 | [],_,_,_,_,_,_,h=>h
 | .blk t0 k0 ts0::A,B,t,key,ts,ts',k,h=>⟨h.1,h.2.1,Q4h A B t key ts ts' (k+1) h.2.2⟩
 | .byte _::A,B,t,key,ts,ts',k,h=>Q4h A B t key ts ts' k h
 | .note::A,B,t,key,ts,ts',k,h=>Q4h A B t key ts ts' k h
 | .tag _::A,B,t,key,ts,ts',k,h=>Q4h A B t key ts ts' k h
inductive DS where
 | mk (ms:List MK)
 | rs (ls:List RL)
 | sh (a b:List Fl) (rs:List Rc)
def DS.fmt:DS→Int
 | .mk _=>1
 | .rs _=>2
 | .sh _ _ _=>3
def DS.un:DS→List Un×List UInt8
 | .mk ms=>Y8 ms
 | .rs ls=>Y4 ls
 | .sh a b rr=>Z6 a b rr
def DS.Ok:DS→Prop
 | .mk ms=>(∀ x∈ms,Y0h x)∧Q0b 0 ms
 | .rs ls=>(∀ x∈ls,Y0i x)∧(Z1 ls).Nodup∧(Z1 ls).length≤1000
 | .sh a b rr=>(∀ f∈a,Q6l f∧Q4r f≠C7)∧(∀ f∈b,Q6l f∧Q4r f≠C7)∧(∀ r∈rr,RcF a b r)∧(∀ i r,rr[i]? =some r→r.key=Lib.decDigits (i+1))∧rr.length≤98∧a.length+1+b.length≤90
theorem DS.ok_fmt (d:DS):D1 d.fmt:=by
 cases d with
 | mk ms=>exact .inl rfl
 | rs ls=>exact .inr (.inl rfl)
 | sh a b rs=>exact .inr (.inr rfl)
def DS.ps (d:DS):List Pt:=P9 d.un.1 d.un.2
def DS.data (d:DS):List UInt8:=O0 d.un.1 d.un.2
theorem DS.bytes (d:DS):Y0 d.ps=d.data:=Q2k _ _
theorem DS.spl (m:Int) (d:DS) (h:d.Ok) (hs:d.data.length≤65536):Y0x m d.fmt (ofL (Y0 d.ps)) d.ps:=fun w hm=>by
 rw [DS.bytes];have hz:(ofL d.data).size≤65536:=(by rw [Q6];exact hs);cases d with
 | mk ms=>exact X5f _ ms m w hm (by simpa [ofL,DS.data,DS.un,X7] using Q6a ms) h.1 h.2 hz
 | rs ls=>exact Y9s _ ls m w hm (by simpa [ofL,DS.data,DS.un,X6] using X0l ls) h.1 h.2.1 h.2.2 hz
 | sh a b rs=>
   have:=Z0d (ofL (DS.sh a b rs).data) a b rs [] w (.inl rfl) (by simpa [ofL,DS.data,DS.un,U9] using X0m a b rs) h.1 h.2.1 h.2.2.1 h.2.2.2.1 h.2.2.2.2.1 h.2.2.2.2.2 hz;rw [aX] at this;exact this
theorem X9o {α β:Type} (P:List α×β) (sa:List α) (u v:α) (r:List α) (b:β) (h:P=(sa++u::r,b)) (k:Nat) (hk:sa.length=k):P.1[k]? =some u∧(sa++v::r,b)=(P.1.set k v,P.2):=by
 subst h hk;refine ⟨?_,by rw [Z6p]⟩;show (sa++u::r)[sa.length]? =some u;rw [bF yQ,cZ];rfl
theorem DS.set (d:DS) (h:d.Ok) (k:Nat) (u:Un) (hu:d.un.1[k]? =some u) (ts:Els) (hr:RawOk d.fmt ts):∃ d':DS,d'.Ok∧d'.fmt=d.fmt∧d'.un=(d.un.1.set k ⟨u.sk,u.key,ts⟩,d.un.2):=by
 have hk:k < d.un.1.length:=(aM.1 hu).1;cases d with
 | mk ms=>
   have ha:k < E6 ms:=(by rw [←R7];exact hk);obtain ⟨A,t,key,ts0,B,rfl,hA⟩:=X6w ms k ha;have e1:=fun ts=>X7s G1 Z3l A B (.blk t key ts) ⟨(A.foldl G1 ([],[])).2++(60::t++[62]),key,ts⟩ ([],[]) (G9 t) rfl;have hl:(A.foldl G1 ([],[])).1.length=k:=(by rw [←hA,←R7];rfl);refine ⟨.mk (A++.blk t key ts::B),⟨fun x hx=>?_,Q4h A B t key ts0 ts 0 h.2⟩,rfl,?_⟩
   ·rcases aS.1 hx with hx | hx
    ·exact h.1 x (by simp [hx])
    ·rcases aU.1 hx with rfl | hx
     ·have:=h.1 (.blk t key ts0) yW;exact ⟨this.1,this.2.1,hr⟩
     ·exact h.1 x (by simp [hx])
   ·have e2:∀ ts,(DS.mk (A++.blk t key ts::B)).un=_:=e1;obtain ⟨g1,g2⟩:=X9o _ _ _ ⟨u.sk,u.key,ts⟩ _ _ (e2 ts0) k hl;rw [hu] at g1;injection g1 with g1;rw [←g2,e2 ts,g1]
 | rs ls=>
   have ha:k < (Z1 ls).length:=(by rw [←Q0r];exact hk);obtain ⟨A,key,ts0,B,rfl,hA⟩:=Y5p ls k ha;have e1:=fun ts=>X7s O6 Z3m A B (.unit key ts) ⟨(A.foldl O6 ([],[])).2++(key++[61]),key,ts⟩ ([],[]) [10] rfl;have hl:(A.foldl O6 ([],[])).1.length=k:=(by rw [←hA,←Q0r];rfl);have hc:Z1 (A++.unit key ts::B)=Z1 (A++.unit key ts0::B):=(by rw [I3,I3];rfl);refine ⟨.rs (A++.unit key ts::B),⟨fun x hx=>?_,by rw [hc];exact h.2.1,by rw [hc];exact h.2.2⟩,rfl,?_⟩
   ·rcases aS.1 hx with hx | hx
    ·exact h.1 x (by simp [hx])
    ·rcases aU.1 hx with rfl | hx
     ·have:=h.1 (.unit key ts0) yW;exact ⟨this.1,this.2.1,this.2.2.1,hr⟩
     ·exact h.1 x (by simp [hx])
   ·have e2:∀ ts,(DS.rs (A++.unit key ts::B)).un=_:=e1;obtain ⟨g1,g2⟩:=X9o _ _ _ ⟨u.sk,u.key,ts⟩ _ _ (e2 ts0) k hl;rw [hu] at g1;injection g1 with g1;rw [←g2,e2 ts,g1]
 | sh a b rs=>
   have hd:(Z6 a b rs).1.length=rs.length:=by
    suffices hh:∀ (rs:List Rc) (st:List Un×List UInt8),(rs.foldl O7 st).1.length=st.1.length+rs.length by
     have:=hh rs ([],I6 a b);unfold Z6;simpa using this
    intro rs;induction rs with
    | nil=>intro st;rfl
    | cons x rs ih=>intro st;rw [bQ,ih];simp [O7];omega
   have ha:k < rs.length:=(by rw [←hd];exact hk);have e0:rs=rs.take k++rs[k]::rs.drop (k+1):=(by rw [←aQ ha,bR]);obtain ⟨A,r,B,rfl,hA⟩:∃ A r B,rs=A++r::B∧A.length=k:=⟨_,_,_,e0,by simp;omega⟩;have e1:=fun ts=>X7s O7 Z3n A B ⟨r.pre,r.key,ts,r.post⟩ ⟨(A.foldl O7 ([],I6 a b)).2++(10::(G0 r.pre++[34])),r.key,ts⟩ ([],I6 a b) (34::T4 r.post) rfl;have hl:(A.foldl O7 ([],I6 a b)).1.length=k:=by
    have hh:∀ (rs:List Rc) (st:List Un×List UInt8),(rs.foldl O7 st).1.length=st.1.length+rs.length:=by
     intro rs;induction rs with
     | nil=>intro st;rfl
     | cons x rs ih=>intro st;rw [bQ,ih];simp [O7];omega
    rw [hh,hA];simp
   obtain ⟨h1,h2,h3,h4,h5,h6⟩:=h;have hb:=h3 r yW;refine ⟨.sh a b (A++⟨r.pre,r.key,ts,r.post⟩::B),⟨h1,h2,fun x hx=>?_,fun i x hi=>?_,by simpa using h5,h6⟩,rfl,?_⟩
   ·rcases aS.1 hx with hx | hx
    ·exact h3 x (by simp [hx])
    ·rcases aU.1 hx with rfl | hx
     ·exact ⟨hb.pre,hb.post,hb.okA,hb.okB,hr⟩
     ·exact h3 x (by simp [hx])
   ·by_cases hik:i=k
    ·subst hik;rw [←hA,bF yQ,cZ] at hi;injection hi with hi;rw [←hi];exact h4 i r (by rw [←hA,bF yQ,cZ];rfl)
    ·refine h4 i x ?_;rw [←hi];by_cases hlt:i < A.length
     ·rw [dJ hlt,dJ hlt]
     ·rw [bF yY,bF yY];obtain ⟨j,hj⟩:∃ j,i - A.length=j+1:=⟨i - A.length - 1,yY⟩;rw [hj];rfl
   ·have e2:∀ ts,(DS.sh a b (A++⟨r.pre,r.key,ts,r.post⟩::B)).un=_:=e1;have e3:(DS.sh a b (A++r::B)).un=_:=e1 r.ts;obtain ⟨g1,g2⟩:=X9o _ _ _ ⟨u.sk,u.key,ts⟩ _ _ e3 k hl;rw [hu] at g1;injection g1 with g1;rw [←g2,e2 ts,g1]
theorem Q8f (m fmt:Int) (hf:D1 fmt) (ts:Els) (h:RawOk fmt ts) (hs:(Q2 ts).length≤65536):Y0w m fmt (ofL (Q2 ts)) (Q4 (X0 ts)):=by
 have hr:Rdb fmt (ofL (Q2 ts)) ts:=⟨by simp [ofL],h.els,h.len,by rw [Q6];omega⟩;intro w hm;rcases hf with rfl | rfl | rfl
 ·exact Q1y _ ts m w hm hr h.num
 ·exact X2m _ ts w hr h.cont
 ·exact X2p _ ts w hr
theorem X7k (fmt:Int) (hf:fmt≠2) (ts:Els) (h:∀ e∈ts,ElOk fmt e.1 e.2):∀ (p b:Nat),p=b→H9 ts p b=p+(Q2 ts).length:=by
 induction ts with
 | nil=>intro p b h;simp [H9,Q2,h]
 | cons e ts ih=>
   intro p b hb;obtain ⟨r,o⟩:=e;cases o with
   | none=>exact absurd (by have:=h (r,none) yW;cases this;rfl) hf
   | some x=>
     rw [H9,ih (fun e he=>h e (by simp [he])) _ _ rfl,show Q2 ((r,some x)::ts)=r++Q2 ts from rfl,aA];omega
def Q9r (ts:Els):List Int:=csE ts++[((H9 ts 0 0:Nat):Int)]
theorem Y3q (ts:Els):Q9r ts=(Z0u ts).map fun (n:Nat)=>(n:Int):=by unfold Q9r Z0u csE;simp
theorem Z7n (m fmt:Int) (hf:D1 fmt) (ts:Els) (h:RawOk fmt ts) (hs:(Q2 ts).length≤65536):U0j m fmt (ofL (Q2 ts)) (Q9r ts):=by
 have hr:Rdb fmt (ofL (Q2 ts)) ts:=⟨by simp [ofL],h.els,h.len,by rw [Q6];omega⟩;unfold Q9r;intro w hm;rcases hf with rfl | rfl | rfl
 ·have e:=X7k 1 yX ts h.els 0 0 rfl;rw [bI] at e;rw [e];exact X8f _ ts m w hm hr h.num
 ·exact Z2y _ ts w hr h.cont
 ·have e:=X7k 3 yX ts h.els 0 0 rfl;rw [bI] at e;rw [e];exact Z3b _ ts w hr
theorem Z7v (m fmt:Int) (hf:D1 fmt) (f:List Tk) (hv:ValF f) (h1:fmt=1→Q5e f) (h2:fmt≠1→∀ x∈f,V8 x):U0k m fmt f (ofL (V3 fmt f)):=by
 intro A c w hm hr;rcases hf with rfl | rfl | rfl
 ·exact X1v f _ m w hm hr hv (h1 rfl)
 ·exact Y5f f _ m w hm hr hv (h2 yX)
 ·exact Y5g f _ m w hm hr hv (h2 yX)
theorem J2 {a:Act} {w:World} {o:Oper} (ho:o.op=.alloc 41):(execOp a.eval o).run prog w=.ok (.value (.pointer (some ⟨w.heap.size,0,none⟩))) (w.alloc (.cells #[.int .i64 0,.slice none 0 0] 41)):=by
 unfold execOp;simp only [ho];go_simp
theorem Q8h {a:Act} {w:World} {o:Oper} (x y:Operand) (k:Int) (A:Option Addr) (n c:Nat) (ho:o.op=.build 41 #[(0,x),(1,y)]) (hx:a.eval x=.int .i64 k) (hy:a.eval y=.slice A n c):(execOp a.eval o).run prog w=.ok (.value (.agg #[.int .i64 k,.slice A n c])) w:=by
 generalize a.eval=ρ at hx hy ⊢;unfold execOp;simp only [ho];go_simp
theorem bx2 {w:World} {b:Nat} {v0 v1:Value} {t:TypeId} (h:w.heap[b]? =some (.cells #[v0,v1] t)):
 w.cell? ⟨b,0,none⟩=some v0∧w.cell? ⟨b,1,none⟩=some v1∧w.frozen? ⟨b,0,none⟩=false∧w.frozen? ⟨b,1,none⟩=false:=
 ⟨by rw [bV _ _ 0 _ _ _ h];rfl,by rw [bV _ _ 1 _ _ _ h];rfl,eP w b 0 _ _ h,eP w b 1 _ _ h⟩
theorem V2a:(prog.info? 41).map (·.size)=some 2:=by kernel_rfl
theorem X4z {o:Oper} {a:Act} {w:World} {K:Act→World→Prop} {Q:Exit→Act→World→Prop} (x y:Operand) (ho:o.op=.store 41 x y) (hd:o.dst=none) (g:Nat) (k:Int) (A:Option Addr) (n c:Nat) (hx:a.eval x=.pointer (some ⟨g,0,none⟩)) (hy:a.eval y=.agg #[.int .i64 k,.slice A n c])
 {v0 v1:Value} (hb:w.heap[g]? =some (.cells #[v0,v1] 41)) (h:K a ((w.setCell ⟨g,0,none⟩ (.int .i64 k)).setCell ⟨g,1,none⟩ (.slice A n c))):Oper.wp prog o a w K Q:=by
 obtain ⟨c0,c1,f0,f1⟩:=bx2 hb;refine wp_store_mid 41 x y ho g 0 #[.int .i64 k,.slice A n c] hx hy (fun j hj=>?_) (by rw [V2a];rfl) (by rw [List.all_toArray];rfl) ?_
 ·rcases (show j=0∨j=1 by simp at hj;omega) with rfl | rfl
  ·exact ⟨by rw [c0];rfl,f0⟩
  ·exact ⟨by rw [c1];rfl,f1⟩
 ·rw [hd];exact h
theorem Q7h {w w':World} {B:Nat} {e:TypeId} {size n:Nat} {v:Value} {xs:List Value} (h:w.ownsRow B e size v n xs) (hb:Below w.heap.size w w'):w'.ownsRow B e size v n xs:=Q7 h fun k hk=>hb.block k (h.lt k hk).2
theorem J5 {w:World} {g:Nat} {o:Obj} (h:w.heap[g]? =some o):g < w.heap.size:=(aN.1 h).1
theorem Q9 {w w':World} {g:Nat} {o:Obj} (h:w.heap[g]? =some o) (hb:Below w.heap.size w w'):w'.heap[g]? =some o:=(hb.block g (J5 h)).trans h
theorem Q8x {w:World} {g:Nat} {u0 u1 v0 v1:Value} {t:TypeId} (h:w.heap[g]? =some (.cells #[v0,v1] t)):((w.setCell ⟨g,0,none⟩ u0).setCell ⟨g,1,none⟩ u1).heap[g]? =some (.cells #[u0,u1] t):=by
 have h1:=W8 h 0 u0;rw [W8 h1 1 u1];rfl
theorem O3 {w:World} {g k:Nat} {u0 u1:Value} (h:k≠g):((w.setCell ⟨g,0,none⟩ u0).setCell ⟨g,1,none⟩ u1).heap[k]? =w.heap[k]? :=by
 rw [aV _ _ _ _ h,aV _ _ _ _ h]
theorem Q0u {w:World} {b:Nat} {k:Int} {A:Option Addr} {n c:Nat} (h0:w.cell? ⟨b,0,none⟩=some (.int .i64 k)) (h1:w.cell? ⟨b,1,none⟩=some (.slice A n c)):(Instr.loadAt 41 (.pointer (some ⟨b,0,none⟩))).run prog w=.ok (.agg #[.int .i64 k,.slice A n c]) w:=by
 go_simp
theorem Q2g {w:World} {b:Nat} {A:Option Addr} {n c:Nat} (h1:w.cell? ⟨b,1,none⟩=some (.slice A n c)):(Instr.loadAt 39 (.pointer (some ⟨b,1,none⟩))).run prog w=.ok (.slice A n c) w:=by
 go_simp
end Go.Proofs.YtfkojnofbpdjdaaGreatDoor
