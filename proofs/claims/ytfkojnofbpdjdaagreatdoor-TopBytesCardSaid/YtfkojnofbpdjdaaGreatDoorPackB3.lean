/-
  Contracts and plain laws that this claim leans on, part 3.
-/
import Derived.Test.YtfkojnofbpdjdaaGreatDoorPackB2
import Derived.Test.YtfkojnofbpdjdaaGreatDoorPackB1
import Derived.Lib.IndexMore
import Derived.Lib.Bytealg
import Derived.Shelf.Abstract
import Derived.Deep.DeepCutAuto
import Derived.Deep.CutBlock
import Derived.Great.BuildSlice
import Derived.Great.Walk
import Derived.BigQuiet
import Derived.Tactics2
import Derived.Defers
import Derived.Laws.Pointers
import Derived.Laws.LoneSync
import Derived.RegionTactic
import Derived.RegionCalls
set_option linter.unusedVariables false
set_option linter.unusedSimpArgs false
set_option maxHeartbeats 16000000
set_option maxRecDepth 100000
namespace Go.Proofs.YtfkojnofbpdjdaaGreatDoor
open Tryz
open Go.RowKit
def D6 (ps:List Pt) (w:World) (e:Ending) (w':World):Prop:=
 ∃ v,e=.returned (.tuple #[v,.int .i64 0,.int .i64 0])∧OwnE 52 ptC 3 w' w.heap.size v ps∧Below w.heap.size w w'
theorem Q2j (us:List Un) (u:Un):P1 (us++[u])=P1 us++[⟨false,ofL [],ofL u.sk⟩,⟨true,ofL u.key,ofL (Q2 u.ts)⟩]:=by
 rw [V4r];rfl
theorem Q2l (us:List Un) (u:Un):Z4 (us++[u])=Z4 us++(u.sk++Q2 u.ts):=by
 rw [Q7m];simp [Z4]
theorem I7 (l:List UInt8):(ofL l).toList=l:=by
 rw [Y7];simp [ofL]
theorem Q2e:∀ (ms:List MK) (k:Nat),Q0b k ms→k≤99→k+E6 ms≤99
 | [],k,_,h=>h
 | x::ms,k,hk,h=>by
   cases x with
   | byte c=>exact Q2e ms k hk h
   | note=>exact Q2e ms k hk h
   | tag t=>exact Q2e ms k hk h
   | blk t key ts=>
     have:=Q2e ms (k+1) hk.2.2 (by have:=hk.2.1;omega);show k+(E6 ms+1)≤99;omega
theorem V8v (x:MK) (h:∀ t k ts,x≠.blk t k ts):V4d x=(Y5 x).length∧U1x x=⟨#[]⟩:=by
 cases x with
 | blk t k ts=>exact absurd rfl (h t k ts)
 | byte c=>exact ⟨rfl,rfl⟩
 | note=>exact ⟨rfl,rfl⟩
 | tag t=>exact ⟨by simp [V4d,Y5],rfl⟩
theorem Y1c (dn:List MK) (x:MK) (h:∀ t k ts,x≠.blk t k ts):E6 (dn++[x])=E6 dn:=by
 rw [Q4a];cases x with
 | blk t k ts=>exact absurd rfl (h t k ts)
 | byte c=>rfl
 | note=>rfl
 | tag t=>rfl
theorem X5f (data:fY) (ms:List MK) (m:Int) (w:World) (hm:w.cell? ⟨0,0,none⟩=some (.int .i64 m)) (hd:data.data.toList=X7 ms) (hok:∀ x∈ms,Y0h x) (hk:Q0b 0 ms) (hsz:data.size≤65536):
 Calls prog 94 #[.string data] w (D6 (P9 (Y8 ms).1 (Y8 ms).2) w):=by
 obtain ⟨R,hQ⟩:∃ R:Ending→World→Prop,yK (R=D6 (P9 (Y8 ms).1 (Y8 ms).2) w):=⟨_,rfl⟩;rw [←hQ.o];have CP:=zW (fun w=>Q5s data w);have HD:=zW hd;have Hf:=zW hok;have HK:=zW hk;have HM:=zW hm;clear hd hok hk hm;go_enter func94,ntmps94
 go_wp2_with (go_at_call 142;refine (CP.o _).mono ?_;rintro e w0 ⟨g,rfl,hY,hT⟩;have hP:=zW hY;have hM:=zW hT;clear hY hT)
 go_loopg [3,6] ms.length (fun gk av bv wr=>∃ dn td,yK (ms=dn++td)∧av=.int .i64 ((X7 dn).length:Nat)∧bv=.int .i64 (E6 dn:Nat)∧(∃ lv,yK (PsB w.heap.size g data (Z4 (Y8 dn).1).length lv (P1 (Y8 dn).1) wr))∧yK (Below w.heap.size w wr)∧td.length≤gk)
 case atStart=>exact ⟨[],ms,rfl,rfl,rfl,⟨_,hP.o⟩,hM.o,yQ⟩
 case round=>
  obtain ⟨dn,td,HE,rfl,rfl,⟨lv,HP⟩,HB,hgk⟩:=hrel;clear hP hM;cases td with
  | nil=>
    have he:ms=dn:=(by have:=HE.o;rwa [aX] at this);subst he;have hH:(X7 ms).length=data.size:=(by rw [aC,HD.o]);have hu:=C6 (Y8 ms).1;have hn:(Z4 (Y8 ms).1).length≤data.size:=by
     rw [←hH,Q0o,aA];omega
    have hG:E6 ms≤65536:=(by have:=Q2e ms 0 HK.o yX;omega);rw [R7] at hu;have hl:data.extract (Z4 (Y8 ms).1).length data.size=ofL (Y8 ms).2:=B7 _ _ _ (by rw [HD.o,Q0o]);have HC:=zW (X8d HP.o hn yY yY);rw [hl,show (⟨#[]⟩:fY)=ofL [] from rfl,←Q5t] at HC;clear hl hn hu hG;rw [hH];clear hH;go_wp2_with (go_at_call 147;refine (HC.o).mono ?_;rintro e w1 ⟨v,rfl,ho,hf⟩;have HO:=zW ho;have hh:=zW (HB.o.trans hf);obtain ⟨A,c,rfl⟩:=Q0 ho;clear ho hf)
    go_ret3
    rw [hQ.o];exact ⟨_,rfl,HO.o,hh.o⟩
  | cons x td=>
    have hx:=Hf.o x (by rw [HE.o];simp);have hV:=Q0k dn (x::td) 0 (by rw [←HE.o];exact HK.o);have hi:data.data.toList=X7 dn++(Y5 x++X7 td):=(by rw [HD.o,HE.o,Q7n];rfl);have hp:(X7 dn).length+(Y5 x).length+(X7 td).length=data.size:=(by rw [aC,hi];simp;omega);have Ha:0 < (Y5 x).length:=by cases x<;>simp [Y5,Y8m]
    have hl:data.extract (X7 dn).length data.size=ofL (Y5 x++X7 td):=B7 _ _ _ hi;have HO:=zW (fun w hm=>V8t x (ofL (Y5 x++X7 td)) (X7 td) m w hm hx (by simp [ofL]) (by rw [Q6,aA];omega));have hz:dn++[x]++td=dn++x::td:=yW;have hB:X7 (dn++[x])=X7 dn++Y5 x:=(by rw [Q7n];simp [X7]);by_cases hb:∃ t k ts,x=.blk t k ts
    ·obtain ⟨t,key,ts,rfl⟩:=hb;obtain ⟨hc,hy,ha⟩:=hx;obtain ⟨hs,hJ,_⟩:=hV;have Hb:(Y5 (.blk t key ts)).length=(t.length+2)+(Q2 ts).length+(G9 t).length:=(by simp [Y5];omega);have Hr:(Q2 ts).length≤65536:=yY;have hj:(X7 dn++(60::t++[62])).length=(X7 dn).length+(t.length+2):=yW;have Hi:data.extract ((X7 dn).length+(t.length+2)) data.size=ofL (Q2 ts++(G9 t++X7 td)):=by
      have:=B7 data (X7 dn++(60::t++[62])) (Q2 ts++(G9 t++X7 td)) (by rw [hi];simp [Y5]);rw [hj] at this;exact this
     have hR:data.extract ((X7 dn).length+(t.length+2)) ((X7 dn).length+(t.length+2)+(Q2 ts).length)=ofL (Q2 ts):=by
      have:=T0 data (X7 dn++(60::t++[62])) (Q2 ts) (G9 t++X7 td) ((X7 dn).length+(t.length+2)+(Q2 ts).length) (by rw [hi];simp [Y5]) yW;rw [hj] at this;exact this
     have hv:=Q0o dn;have hS:data.extract (Z4 (Y8 dn).1).length ((X7 dn).length+(t.length+2))=ofL ((Y8 dn).2++(60::t++[62])):=
      T0 data (Z4 (Y8 dn).1) ((Y8 dn).2++(60::t++[62])) (Q2 ts++(G9 t++X7 td)) _ (by rw [hi,hv];simp [Y5]) (by rw [hv];simp;omega)
     have hn:(Z4 (Y8 dn).1).length≤(X7 dn).length+(t.length+2):=(by rw [hv,aA];omega);have hW:∀ b∈Z0 t,b≠62:=fun b hb=>by
      obtain ⟨r,hr⟩:=X2u t;exact (Q1c _ hc).1 b (by rw [hr];exact aS.2 (.inl hb))
     have hq:Lib.index (ofL (Q2 ts++(G9 t++X7 td))).data.toList (ofL (G9 t)).data.toList=((Q2 ts).length:Int):=by
      rw [show ∀ l,(ofL l).data.toList=l from fun l=>by simp [ofL],show ∀ l,(ofL l).data.toList=l from fun l=>by simp [ofL]];exact Y4d (Z0 t) hW hy (X7 td) ts ha.els
     have HI:=zW (fun w hm=>Tryz.strings_Index (ofL (Q2 ts++(G9 t++X7 td))) (ofL (G9 t)) m w (by rw [Q6];simp;omega) hm);rw [hq] at HI;have hN:=zW (fun w hm=>Q1y (ofL (Q2 ts)) ts m w hm ⟨by simp [ofL],ha.els,ha.len,by rw [Q6];omega⟩ ha.num);have hG:=Q2e ms 0 HK.o yX;have hO:=zW (fun w=>Tryz.strconv_Itoa_small (E6 dn+1) yY w);rw [show (⟨(Lib.decDigits (E6 dn+1)).toArray⟩:fY)=ofL key by rw [hs,bI];rfl,show ((E6 dn+1:Nat):Int)=(E6 dn:Int)+1 from rfl] at hO;have hu:=C6 (Y8 dn).1;rw [R7] at hu;have HU:=zW (fun (lv:Value) (w':World) (h:PsB w.heap.size g data (Z4 (Y8 dn).1).length lv (P1 (Y8 dn).1) w')=>V6k ((X7 dn).length+(t.length+2)) ((X7 dn).length+(t.length+2)+(Q2 ts).length) (ofL key) h hn yY yY yY yY);rw [hS,hR,show (⟨#[]⟩:fY)=ofL [] from rfl,←Q2j (Y8 dn).1 ⟨(Y8 dn).2++(60::t++[62]),key,ts⟩,show (((X7 dn).length+(t.length+2)+(Q2 ts).length:Nat):Int)=((X7 dn).length:Int)+((t.length+2:Nat):Int)+((Q2 ts).length:Int) by omega,show (((X7 dn).length+(t.length+2):Nat):Int)=((X7 dn).length:Int)+((t.length+2:Nat):Int) by omega] at HU;have hw:yK (Y8 (dn++[.blk t key ts])=((Y8 dn).1++[⟨(Y8 dn).2++(60::t++[62]),key,ts⟩],G9 t)):=(by show _=_;rw [Q6b];rfl);have He:yK ((Z4 (Y8 (dn++[.blk t key ts])).1).length=(X7 dn).length+(t.length+2)+(Q2 ts).length):=by
      show _=_;rw [hw.o,Q2l,hv];simp;omega
     have hg:yK (((X7 dn).length:Int)+((t.length+2:Nat):Int)+((Q2 ts).length:Int)+((G9 t).length:Int)=((X7 (dn++[.blk t key ts])).length:Nat)):=(by show _=_;rw [hB,aA,Hb];omega);have hC:yK ((E6 dn:Int)+1=((E6 (dn++[.blk t key ts]):Nat):Int)):=(by show _=_;rw [Q4a];rfl);have hD:yK (ms=dn++[.blk t key ts]++td):=(by show _=_;rw [hz];exact HE.o);have Hm:(ofL (Z0 t)).toList.isEmpty=false:=by
      rw [I7];cases htn:Z0 t with
      | nil=>rw [htn] at hy;revert hy;decide
      | cons c q=>rfl
     have ht:(⟨#[60,47]⟩:fY)++ofL (Z0 t)++(⟨#[62]⟩:fY)=ofL (G9 t):=by
      apply cB;apply bX.1;simp [ofL,G9]
     have Hk:(ofL (G9 t)).size=(G9 t).length:=Q6 _;have hK:(ofL (Z0 t)).size≤65536:=(by rw [Q6];have:=X2v t;omega);have Hn:((X7 dn).length:Int) < (data.size:Int):=yY;have hL:(X7 dn).length≤data.size:=yY;have Ho:(X7 dn).length+(t.length+2)≤data.size:=yY;have Hp:(X7 dn).length+(t.length+2)+(Q2 ts).length≤data.size:=yY;have Hq:(X7 dn).length+(t.length+2)+(Q2 ts).length+(G9 t).length≤data.size:=yY;have hI:td.length+1≤gk:=hgk;have Hj:E6 dn≤99:=yY;rw [show V4d (.blk t key ts)=t.length+2 from rfl,show U1x (.blk t key ts)=ofL (Z0 t) from rfl] at HO;clear hB hz Ha hi hs hJ hc hy ha Hb Hr hS hn hW hq hG hu hv hp hj;generalize ofL (Y5 (.blk t key ts)++X7 td)=u1 at hl HO;generalize ofL (Q2 ts++(G9 t++X7 td))=u2 at Hi HI;generalize ofL (Q2 ts)=u3 at hR hN;generalize ofL (Z0 t)=nm at HO Hm ht hK;generalize ofL (G9 t)=pat at HI ht Hk;generalize t.length+2=n at *;generalize (Q2 ts).length=l at *;generalize (G9 t).length=le at *;go_wp2_with (first
      | (go_at_call 143;refine (HO.o _ (by exact X8 HM.o HB.o)).mono ?_;rintro e w1 ⟨rfl,hf⟩;have hE:=zW (HP.o.below hf);have hh:=zW (HB.o.trans (hf.mono HB.o.size));clear hf)
      | (go_at_call 144;refine (HI.o _ (by exact X8 HM.o hh.o)).mono ?_;rintro e w' ⟨rfl,rfl⟩)
      | (go_at_call 13;refine (hN.o _ (by exact X8 HM.o hh.o)).mono ?_;rintro e w2 ⟨v2,rfl,hX,hF⟩;obtain ⟨A2,c2,rfl⟩:=Q0 hX;have Hg:=zW (hE.o.below hF);have Hc:=zW (hh.o.trans (hF.mono hh.o.size));clear hX hF)
      | (go_at_call 146;refine (hO.o _).mono ?_;rintro e w' ⟨rfl,rfl⟩)
      | (go_at_call 145;refine (HU.o _ _ (by exact Hg.o)).mono ?_;rintro e w3 ⟨⟨v3,rfl⟩,lv3,hZ,hU⟩;have Hh:=zW hZ;have Hd:=zW (Hc.o.trans hU);clear hZ hU))
     rw [hg.o,hC.o];go_roundg td.length
     case measure=>omega
     case rel=>
      refine ⟨dn++[MK.blk t key ts],td,hD.o,rfl,rfl,⟨lv3,?_⟩,Hd.o,yQ⟩;rw [He.o,hw.o];exact Hh.o
    ·have hA:∀ t k ts,x≠.blk t k ts:=fun t k ts e=>hb ⟨t,k,ts,e⟩;obtain ⟨o1,o2⟩:=V8v x hA;rw [o1,o2] at HO;have hC:=zW (Y1c dn x hA);have hw:yK (Y8 (dn++[x])=((Y8 dn).1,(Y8 dn).2++Y5 x)):=(by show _=_;rw [Q6b,X2s _ _ hA]);have hg:yK (((X7 dn).length:Int)+((Y5 x).length:Int)=((X7 (dn++[x])).length:Nat)):=(by show _=_;rw [hB,aA];simp);have hD:yK (ms=dn++[x]++td):=(by show _=_;rw [hz];exact HE.o);have Hn:((X7 dn).length:Int) < (data.size:Int):=yY;have hL:(X7 dn).length≤data.size:=yY;have Hl:(Y5 x).length≤65536:=yY;have hI:td.length+1≤gk:=hgk;clear hB hz hb hA o1 o2 Ha hV hx hi;generalize ofL (Y5 x++X7 td)=u at hl HO;generalize (Y5 x).length=ln at hp Hl HO hg;go_wp2_with (go_at_call 143;refine (HO.o _ (by exact X8 HM.o HB.o)).mono ?_;rintro e w1 ⟨rfl,hf⟩;have hE:=zW (HP.o.below hf);have hh:=zW (HB.o.trans (hf.mono HB.o.size));clear hf)
     rw [hg.o];go_roundg td.length
     case measure=>omega
     case rel=>
      refine ⟨dn++[x],td,hD.o,rfl,by rw [hC.o],⟨lv,?_⟩,hh.o,yQ⟩;rw [hw.o];exact hE.o
theorem V3h (l r:List UInt8) (h:∀ c∈l,c≠10):Lib.index (l++10::r) [10]=(l.length:Int):=by
 have:=X1o [10] (10::r) 0 (by rw [Lib.index,aK (by rw [eI];exact ⟨r,rfl⟩)];rfl) l (fun i hi=>by
  obtain ⟨q,hq⟩:=Y4c l (10::r) i hi;rw [hq];exact L5 _ _ _ _ (fun e=>h _ (aL hi) e.symm))
 rw [this];simp
def lnR (l:List UInt8):List UInt8:=(Lib.cut l [10]).1
theorem Z1x (l r:List UInt8) (h:∀ c∈l,c≠10):lnR (l++10::r)=l:=by
 unfold lnR Lib.cut;rw [V3h l r h,aK yY];show (l++10::r).take ((l.length:Int)).toNat=l;rw [cH,eH]
theorem Y7z (c:UInt8) (l:List UInt8) (h:c≠10):lnR (c::l)=c::lnR l:=by
 have hi:Lib.index (c::l) [10]=if Lib.index l [10]==-1 then -1 else Lib.index l [10]+1:=by
  rw [Lib.index,aE (by rw [L5 10 c [] l (fun e=>h e.symm)];decide)]
 have hg:=Y7r l [10];by_cases h1:Lib.index l [10]=-1
 ·rw [aK (by rw [h1];rfl)] at hi;unfold lnR Lib.cut;rw [hi,h1];rfl
 ·rw [aE (by simpa using h1)] at hi;have e:(Lib.index l [10]+1).toNat=(Lib.index l [10]).toNat+1:=yY;unfold lnR Lib.cut;rw [hi,aK (show 0≤Lib.index l [10]+1 by omega),aK (show 0≤Lib.index l [10] by omega)];show (c::l).take (Lib.index l [10]+1).toNat=c::l.take (Lib.index l [10]).toNat;rw [e,fI]
theorem V3r:∀ (a r:List UInt8),(lnR (a++10::r)).length≤a.length
 | [],r=>by rw [Z1x [] r yW];exact yQ
 | c::a,r=>by
   by_cases h:c=10
   ·subst h;rw [show (10::a)++10::r=[]++10::(a++10::r) from rfl,Z1x [] _ yW];exact aO _
   ·rw [aR,Y7z c _ h,aG,aG];have:=V3r a r;omega
theorem Z5n (c:UInt8) (h:Q1h c=true):c≠10∧c≠32∧c≠9∧c≠35∧c≠61:=by
 refine ⟨?_,?_,?_,?_,?_⟩<;>(intro e;rw [e] at h;revert h;decide)
theorem V3e (c:UInt8) (l:List UInt8) (h:Q1h c=true):Q6g (lnR (c::l))=false:=by
 obtain ⟨h1,h2,h3,h4,_⟩:=Z5n c h;rw [Y7z c l h1];unfold Q6g;have:Q3g c=false:=(by unfold Q3g;simp [h2,h3]);rw [List.dropWhile_cons,aE (by simp [this])];simpa using h4
theorem Z7s (p:UInt8→Bool) (l:List UInt8):(l.dropWhile p).length≤l.length:=by
 induction l with
 | nil=>exact yQ
 | cons c l ih=>
   rw [List.dropWhile_cons];split
   ·rw [aG];omega
   ·exact yQ
theorem V3f (l:List UInt8) (h:l.dropWhile Q3g=[]):Q6g l=true:=by unfold Q6g;rw [h]
theorem Y2b (l:List UInt8) (c:UInt8) (r:List UInt8) (h:l.dropWhile Q3g=c::r):Q6g l=(c==35):=by unfold Q6g;rw [h]
def Q6z:Nat→List UInt8→Nat
 | 0,_=>0
 | _+1,[]=>0
 | n+1,c::l=>if Q1h c=true then Q6z n l+1 else 0
theorem Z5o:∀ (n:Nat) (k r:List UInt8),k.length < n→(∀ c∈k,Q1h c=true)→Q6z n (k++61::r)=k.length
 | n+1,[],r,_,_=>by
   rw [bJ,Q6z,aE yX];rfl
 | n+1,c::k,r,hn,h=>by
   rw [aR,Q6z,aK (h c yW),Z5o n k r (by simpa using hn) (fun d hd=>h d (by simp [hd])),aG]
/-! ### The file -/
def X6 (ls:List RL):List UInt8:=ls.flatMap E3
theorem X2h (a b:List RL):X6 (a++b)=X6 a++X6 b:=by simp [X6]
theorem Q6c (ls:List RL) (x:RL):Y4 (ls++[x])=O6 (Y4 ls) x:=by
 unfold Y4;rw [dY];rfl
theorem Z1s (ls:List RL) (l:List UInt8):Z1 (ls++[.skip l])=Z1 ls:=by rw [I3];exact aX _
theorem Z1t (ls:List RL) (k:List UInt8) (ts:Els):Z1 (ls++[.unit k ts])=Z1 ls++[k]:=by rw [I3];rfl
theorem Q0r (ls:List RL):(Y4 ls).1.length=(Z1 ls).length:=by
 suffices h:∀ (ls:List RL) (st:List Un×List UInt8),(ls.foldl O6 st).1.length=st.1.length+(Z1 ls).length by
  have:=h ls ([],[]);unfold Y4;simpa using this
 intro ls;induction ls with
 | nil=>intro st;rfl
 | cons x ls ih=>
   intro st;rw [bQ,ih];cases x with
   | skip l=>rfl
   | unit k ts=>
     show (st.1++[_]).length+_=st.1.length+((k::Z1 ls).length);rw [aA,aG];simp;omega
theorem Q0p (ls:List RL):X6 ls=Z4 (Y4 ls).1++(Y4 ls).2:=by
 have:=X4w ls ([],[]);rw [show Z4 ([]:List Un)=[] from rfl,bJ,bJ] at this;exact this.symm
theorem Y7u (dn:List RL) (k:List UInt8) (ts:Els) (td:List RL) (h:(Z1 (dn++.unit k ts::td)).Nodup):((Z1 dn).any fun x=>x==k)=false:=by
 rw [I3,show Z1 (.unit k ts::td)=k::Z1 td from rfl] at h;rw [List.nodup_append] at h;rw [List.any_eq_false];intro x hx;have:=h.2.2 x hx k yW;simpa using this
def FdEnd (s:List UInt8):Prop:=s=[]∨∃ c r,s=c::r∧(c=44∨c=10)
theorem FdEnd.no34 {s:List UInt8} (h:FdEnd s):s.head? ≠some 34:=by
 rcases h with rfl | ⟨c,r,rfl,hc⟩
 ·simp
 ·rcases hc with rfl | rfl<;>simp
structure Fd where
 raw:List UInt8
 quo:Bool
def X6q (f:Fd):Prop:=
 if f.quo=true then ∃ q,f.raw=34::(q++[34])∧∀ s:List UInt8,s.head? ≠some 34→M6 (q++34::s)=q.length
 else ∀ c∈f.raw,c≠34∧c≠44∧c≠10
def Y0o:Fl→Fd
 | .bare l=>⟨l,false⟩
 | .quo l=>⟨34::(l++[34]),true⟩
theorem Q6v (f:Fl):(Y0o f).raw=Q4r f:=by cases f<;>rfl
theorem X6b (f:Fl) (h:Q6l f):X6q (Y0o f):=by
 cases f with
 | bare l=>exact h
 | quo l=>
   show ∃ q,34::(l++[34])=34::(q++[34])∧_;refine ⟨l,rfl,fun s hs=>?_⟩;rw [Q6t l _ h,X3p s hs];rfl
def Y7g (ts:Els):Fd:=⟨34::(Q2 ts++[34]),true⟩
theorem V7y (ts:Els) (h:∀ e∈ts,ElOk 3 e.1 e.2):X6q (Y7g ts):=by
 show ∃ q,34::(Q2 ts++[34])=34::(q++[34])∧_;exact ⟨Q2 ts,rfl,fun s hs=>Y6z s hs ts h⟩
def X7r:Fd:=⟨C7,false⟩
theorem Z8b:X6q X7r:=by
 show ∀ c∈C7,_;decide
def K3:List Fd→List UInt8
 | []=>[]
 | [f]=>f.raw
 | f::g::l=>f.raw++44::K3 (g::l)
theorem Q2w (f:Fd) (l:List Fd) (h:l≠[]):K3 (f::l)=f.raw++44::K3 l:=by
 cases l with
 | nil=>exact absurd rfl h
 | cons g l=>rfl
theorem X3x:∀ (a:List Fl) (m:List Fd),m≠[]→K3 (a.map Y0o++m)=G0 a++K3 m
 | [],m,_=>by simp [G0]
 | f::a,m,h=>by
   rw [cA,aR,Q2w _ _ (by simp [h]),X3x a m h,Q6v];simp [G0]
theorem Q9v:∀ (f:Fd) (b:List Fl),K3 (f::b.map Y0o)=f.raw++T4 b
 | f,[]=>by simp [K3,T4]
 | f,g::b=>by
   rw [cA,Q2w _ _ yW,Q9v (Y0o g) b,Q6v];simp [T4]
def Q6j (a b:List Fl):List Fd:=a.map Y0o++X7r::b.map Y0o
def Q0q (r:Rc):List Fd:=r.pre.map Y0o++Y7g r.ts::r.post.map Y0o
theorem X1n (a b:List Fl):K3 (Q6j a b)=I6 a b:=by
 unfold Q6j I6;rw [X3x _ _ yW,Q9v];rfl
theorem Q4u (r:Rc):K3 (Q0q r)=Q7o r:=by
 unfold Q0q Q7o;rw [X3x _ _ yW,Q9v];show _++((34::(Q2 r.ts++[34]))++T4 r.post)=_;simp
theorem Y7p (a b:List Fl):(Q6j a b).length=a.length+1+b.length:=by simp [Q6j];omega
theorem Y9c (r:Rc):(Q0q r).length=r.pre.length+1+r.post.length:=by simp [Q0q];omega
theorem Z5k (a b:List Fl) (ha:∀ f∈a,Q6l f) (hb:∀ f∈b,Q6l f):∀ f∈Q6j a b,X6q f:=by
 intro f hf;unfold Q6j at hf;rcases aS.1 hf with hf | hf
 ·obtain ⟨g,hg,rfl⟩:=cF.1 hf;exact X6b g (ha g hg)
 ·rcases aU.1 hf with rfl | hf
  ·exact Z8b
  ·obtain ⟨g,hg,rfl⟩:=cF.1 hf;exact X6b g (hb g hg)
theorem Z6h (r:Rc) (ha:∀ f∈r.pre,Q6l f) (hb:∀ f∈r.post,Q6l f) (hr:∀ e∈r.ts,ElOk 3 e.1 e.2):∀ f∈Q0q r,X6q f:=by
 intro f hf;unfold Q0q at hf;rcases aS.1 hf with hf | hf
 ·obtain ⟨g,hg,rfl⟩:=cF.1 hf;exact X6b g (ha g hg)
 ·rcases aU.1 hf with rfl | hf
  ·exact V7y _ hr
  ·obtain ⟨g,hg,rfl⟩:=cF.1 hf;exact X6b g (hb g hg)
theorem Z5j (a b:List Fl):(Q6j a b)[a.length]? =some X7r:=by
 unfold Q6j;rw [bF yW];simp
theorem Z6g (r:Rc):(Q0q r)[r.pre.length]? =some (Y7g r.ts):=by
 unfold Q0q;rw [bF yW];simp
theorem X7t (a b:List Fl) (ha:∀ f∈a,Q4r f≠C7) (hb:∀ f∈b,Q4r f≠C7) (i:Nat) (f:Fd) (h:(Q6j a b)[i]? =some f) (hi:i≠a.length):f.raw≠C7:=by
 unfold Q6j at h;by_cases h1:i < a.length
 ·rw [dJ (by simpa using h1),cE] at h;obtain ⟨g,hg,rfl⟩:=fO.1 h;rw [Q6v];exact ha g (cK hg)
 ·rw [bF yV] at h;simp only [bA] at h;obtain ⟨j,hj⟩:∃ j,i - a.length=j+1:=⟨i - a.length - 1,yY⟩;rw [hj,bU,cE] at h;obtain ⟨g,hg,rfl⟩:=fO.1 h;rw [Q6v];exact hb g (cK hg)
theorem X6o (c:UInt8):((c.toNat:Nat):Int).toNat.toUInt8=c:=by
 rw [cH];exact UInt8.ofNat_toNat
theorem Z5m (c:UInt8) (h:c≠34∧c≠44∧c≠10):Lib.indexByte [34,44,10] c=-1:=by
 have e:∀ d:UInt8,c≠d→(d==c)=false:=fun d hd=>by simpa using fun e:d=c=>hd e.symm
 simp [Lib.indexByte,e 34 h.1,e 44 h.2.1,e 10 h.2.2]
theorem Y7q (c:UInt8) (h:c=44∨c=10):∃ z:Int,Lib.indexByte [34,44,10] c=z∧¬ z < 0:=by
 rcases h with rfl | rfl
 ·exact ⟨1,yX,yX⟩
 ·exact ⟨2,yX,yX⟩
theorem M5 (data:fY) (pre l:List UInt8) (hd:data.data.toList=pre++l) (k p:Nat) (h:k < l.length) (hp:p=pre.length+k) (h2:p < data.size):data[p]=l[k]:=by
 subst hp;have h3:(pre++l)[pre.length+k]'yV=l[k]:=(by rw [bK yY];simp);have h4:data.data.toList[pre.length+k]'(by rw [hd];simp;omega)=l[k]:=(by simp only [hd];exact h3);exact h4
theorem Y2 (c d:UInt8) (h:c≠d):((c.toNat:Int)==(d.toNat:Int))=false:=by
 rw [aI];intro e;exact h (cN.1 (by exact_mod_cast e))
def Q9i (n:Nat) (b:Bool) (w:World) (e:Ending) (w':World):Prop:=e=.returned (.tuple #[.int .i64 (n:Nat),.bool b,.bool true])∧Below w.heap.size w w'
theorem V7z (data:fY) (pre r s:List UInt8) (w:World) (hd:data.data.toList=pre++(r++s)) (hr:∀ c∈r,c≠34∧c≠44∧c≠10) (hs:FdEnd s) (hsz:data.size≤65536):
 Calls prog 177 #[.string data,.int .i64 (pre.length:Nat)] w (Q9i (pre.length+r.length) false w):=by
 obtain ⟨R,hg⟩:∃ R:Ending→World→Prop,yK (R=Q9i (pre.length+r.length) false w):=⟨_,rfl⟩;rw [←hg.o];have hh:data.size=pre.length+(r.length+s.length):=(by rw [aC,hd];simp);have hi:=zW (M5 data pre (r++s) hd);have HR:=zW hr;have HS:=zW hs;have H0:yK (∀ h:pre.length < data.size,((data[pre.length].toNat:Int)==34)=false):=fun h=>by
  have h1:=hi.o 0 pre.length yV rfl h;rw [h1];refine Y2 _ 34 ?_;cases r with
  | cons c r=>exact (hr c yW).1
  | nil=>
    rcases hs with rfl | ⟨c,q,rfl,hc⟩
    ·simp at hh;omega
    ·rcases hc with rfl | rfl
     ·show (44:UInt8)≠34;decide
     ·show (10:UInt8)≠34;decide
 have hv:pre.length+r.length≤data.size:=yY;clear hd hr hs;generalize hP:pre.length=P at *;have HP:=zW hP;clear hP;obtain ⟨wo,hf⟩:∃ wo,yK (wo=w):=⟨w,rfl⟩;have hj:(P < data.size∧(P:Int) < (data.size:Int))∨(¬ P < data.size∧¬ (P:Int) < (data.size:Int)):=yY;have HL:=zW hh;clear hh;rcases hj with ⟨hps,hpsi⟩ | ⟨hps,hpsi⟩
 ·have t0:=H0.o hps;go_enter func177,ntmps177
  go_wp2_with fail
  go_loopg [4] (r.length+1) (fun gk iv wr=>∃ k:Nat,iv=.int .i64 (P+k:Nat)∧k≤r.length∧yK (wr=wo)∧r.length+1 - k≤gk)
  case atStart=>exact ⟨0,rfl,aO _,hf.o.symm,yQ⟩
  case round=>
   obtain ⟨k,rfl,hk,HW,hgk⟩:=hrel;obtain ⟨p,ha⟩:∃ p,p=P+k:=⟨_,rfl⟩;rw [←ha];try clear hpsi
   try clear hps
   try clear t0
   by_cases hkl:k < r.length
   ·have hp:p < data.size:=yY;have hq:(p:Int) < (data.size:Int):=yY;have hc:data[p]=r[k]:=(hi.o k p yV ha hp).trans (cI hkl);have hn:=HR.o r[k] (aL hkl);rw [←hc] at hn;have CI:=zW (fun W=>I1 ⟨#[34,44,10]⟩ data[p].toNat (-1) (by rw [X6o];exact Z5m _ hn) W);have hm:yK ((p:Int)+1=((P+(k+1):Nat):Int)):=(by show _=_;omega);clear hc hn ha;go_wp2_with (go_at_call 126;refine (CI.o _).mono ?_;rintro e w' ⟨rfl,rfl⟩)
    rw [hm.o];go_roundg (r.length - k)
    case measure=>omega
    case rel=>exact ⟨k+1,rfl,hkl,HW.o,yY⟩
   ·obtain rfl:k=r.length:=yY;have hb:yK ((p:Nat)=P+r.length):=ha;have he:=HL.o;rcases HS.o with rfl | ⟨c,q,rfl,hcc⟩
    ·have hl:(p:Int)=(data.size:Int):=(by simp at he;omega);have ht:¬ (p:Int) < (data.size:Int):=yY;have ho:((p:Int)==(data.size:Int))=true:=(by rw [cM];exact hl);clear ha hl he;go_wp2_with fail
     go_quiet (fail)
     go_wp2_with fail
     go_ret3
     rw [hg.o];refine ⟨?_,by rw [(HW.o.trans hf.o)];exact Q1 (aB _ _) _⟩;show Ending.returned (.tuple #[.int .i64 (p:Nat),.bool false,.bool true])=_;rw [hb.o]
    ·simp at he;have hp:p < data.size:=yY;have hq:(p:Int) < (data.size:Int):=yY;have ho:((p:Int)==(data.size:Int))=false:=(by rw [aI];omega);have hc:data[p]=c:=(hi.o r.length p yW ha hp).trans (by rw [bK yQ];simp);obtain ⟨z,hz,hu⟩:=Y7q c hcc;have CI:=zW (fun W=>I1 ⟨#[34,44,10]⟩ data[p].toNat z (by rw [X6o,hc];exact hz) W);rcases hcc with rfl | rfl
     ·have e44:((data[p].toNat:Int)==44)=true:=(by rw [hc];rfl);clear hc ha he hz;go_wp2_with (go_at_call 126;refine (CI.o _).mono ?_;rintro e w' ⟨rfl,rfl⟩)
      go_quiet (fail)
      go_wp2_with fail
      go_ret3
      rw [hg.o];refine ⟨?_,by rw [(HW.o.trans hf.o)];exact Q1 (aB _ _) _⟩;show Ending.returned (.tuple #[.int .i64 (p:Nat),.bool false,.bool true])=_;rw [hb.o]
     ·have e44:((data[p].toNat:Int)==44)=false:=(by rw [hc];rfl);have e10:((data[p].toNat:Int)==10)=true:=(by rw [hc];rfl);clear hc ha he hz;go_wp2_with (go_at_call 126;refine (CI.o _).mono ?_;rintro e w' ⟨rfl,rfl⟩)
      go_quiet (fail)
      go_wp2_with fail
      go_ret3
      rw [hg.o];refine ⟨?_,by rw [(HW.o.trans hf.o)];exact Q1 (aB _ _) _⟩;show Ending.returned (.tuple #[.int .i64 (p:Nat),.bool false,.bool true])=_;rw [hb.o]
 ·go_enter func177,ntmps177
  go_wp2_with fail
  go_loopg [4] (r.length+1) (fun gk iv wr=>∃ k:Nat,iv=.int .i64 (P+k:Nat)∧k≤r.length∧yK (wr=wo)∧r.length+1 - k≤gk)
  case atStart=>exact ⟨0,rfl,aO _,hf.o.symm,yQ⟩
  case round=>
   obtain ⟨k,rfl,hk,HW,hgk⟩:=hrel;obtain ⟨p,ha⟩:∃ p,p=P+k:=⟨_,rfl⟩;rw [←ha];try clear hpsi
   try clear hps
   try clear t0
   by_cases hkl:k < r.length
   ·have hp:p < data.size:=yY;have hq:(p:Int) < (data.size:Int):=yY;have hc:data[p]=r[k]:=(hi.o k p yV ha hp).trans (cI hkl);have hn:=HR.o r[k] (aL hkl);rw [←hc] at hn;have CI:=zW (fun W=>I1 ⟨#[34,44,10]⟩ data[p].toNat (-1) (by rw [X6o];exact Z5m _ hn) W);have hm:yK ((p:Int)+1=((P+(k+1):Nat):Int)):=(by show _=_;omega);clear hc hn ha;go_wp2_with (go_at_call 126;refine (CI.o _).mono ?_;rintro e w' ⟨rfl,rfl⟩)
    rw [hm.o];go_roundg (r.length - k)
    case measure=>omega
    case rel=>exact ⟨k+1,rfl,hkl,HW.o,yY⟩
   ·obtain rfl:k=r.length:=yY;have hb:yK ((p:Nat)=P+r.length):=ha;have he:=HL.o;rcases HS.o with rfl | ⟨c,q,rfl,hcc⟩
    ·have hl:(p:Int)=(data.size:Int):=(by simp at he;omega);have ht:¬ (p:Int) < (data.size:Int):=yY;have ho:((p:Int)==(data.size:Int))=true:=(by rw [cM];exact hl);clear ha hl he;go_wp2_with fail
     go_quiet (fail)
     go_wp2_with fail
     go_ret3
     rw [hg.o];refine ⟨?_,by rw [(HW.o.trans hf.o)];exact Q1 (aB _ _) _⟩;show Ending.returned (.tuple #[.int .i64 (p:Nat),.bool false,.bool true])=_;rw [hb.o]
    ·simp at he;have hp:p < data.size:=yY;have hq:(p:Int) < (data.size:Int):=yY;have ho:((p:Int)==(data.size:Int))=false:=(by rw [aI];omega);have hc:data[p]=c:=(hi.o r.length p yW ha hp).trans (by rw [bK yQ];simp);obtain ⟨z,hz,hu⟩:=Y7q c hcc;have CI:=zW (fun W=>I1 ⟨#[34,44,10]⟩ data[p].toNat z (by rw [X6o,hc];exact hz) W);rcases hcc with rfl | rfl
     ·have e44:((data[p].toNat:Int)==44)=true:=(by rw [hc];rfl);clear hc ha he hz;go_wp2_with (go_at_call 126;refine (CI.o _).mono ?_;rintro e w' ⟨rfl,rfl⟩)
      go_quiet (fail)
      go_wp2_with fail
      go_ret3
      rw [hg.o];refine ⟨?_,by rw [(HW.o.trans hf.o)];exact Q1 (aB _ _) _⟩;show Ending.returned (.tuple #[.int .i64 (p:Nat),.bool false,.bool true])=_;rw [hb.o]
     ·have e44:((data[p].toNat:Int)==44)=false:=(by rw [hc];rfl);have e10:((data[p].toNat:Int)==10)=true:=(by rw [hc];rfl);clear hc ha he hz;go_wp2_with (go_at_call 126;refine (CI.o _).mono ?_;rintro e w' ⟨rfl,rfl⟩)
      go_quiet (fail)
      go_wp2_with fail
      go_ret3
      rw [hg.o];refine ⟨?_,by rw [(HW.o.trans hf.o)];exact Q1 (aB _ _) _⟩;show Ending.returned (.tuple #[.int .i64 (p:Nat),.bool false,.bool true])=_;rw [hb.o]
theorem Z4y (l:List UInt8) (k:Nat) (h:k < l.length) (hc:l[k]=34):(∃ h1:k+1 < l.length,l[k+1]=34∧M6 (l.drop k)=2+M6 (l.drop (k+2)))∨((∀ h1:k+1 < l.length,l[k+1]≠34)∧M6 (l.drop k)=0):=by
 rw [aQ h,hc];by_cases h1:k+1 < l.length
 ·rw [aQ h1];by_cases h2:l[k+1]=34
  ·left;refine ⟨h1,h2,?_⟩;rw [h2,Y7a]
  ·right;exact ⟨fun _=>h2,X3p _ (fun e=>h2 (eA e))⟩
 ·right;rw [eD yY];exact ⟨fun h=>absurd h h1,yX⟩
theorem Y1t (l:List UInt8) (k:Nat) (h:k < l.length) (hc:l[k]≠34):M6 (l.drop k)=1+M6 (l.drop (k+1)):=by
 rw [aQ h,Y6y _ _ hc]
theorem U1k (data:fY) (pre q s:List UInt8) (w:World) (hd:data.data.toList=pre++(34::(q++34::s))) (hq:M6 (q++34::s)=q.length) (hs:FdEnd s) (hsz:data.size≤65536):
 Calls prog 177 #[.string data,.int .i64 (pre.length:Nat)] w (Q9i (pre.length+q.length+2) true w):=by
 obtain ⟨R,hl⟩:∃ R:Ending→World→Prop,yK (R=Q9i (pre.length+q.length+2) true w):=⟨_,rfl⟩;rw [←hl.o];have hh:data.size=pre.length+1+(q.length+1+s.length):=(by rw [aC,hd];simp;omega);have hA:=zW (fun h=>show ((data[pre.length].toNat:Int)==34)=true by rw [M5 data pre (34::(q++34::s)) hd 0 pre.length yW rfl h];rfl);have hi:=zW (M5 data (pre++[34]) (q++34::s) (by rw [hd];simp));have hy:(pre++[(34:UInt8)]).length=pre.length+1:=yW;rw [hy] at hi;clear hy;have hu:(q++34::s).length=q.length+1+s.length:=yV;have H0:yK (0+M6 ((q++34::s).drop 0)=q.length):=(by show _=_;rw [cO,bI];exact hq);have hr:yK (∀ h:q.length < (q++34::s).length,s=[]→(q++34::s).length=q.length+1):=fun _ e=>by rw [hu,e];rfl
 have ho:yK (∀ c r,s=c::r→∀ h:q.length+1 < (q++34::s).length,(q++34::s)[q.length+1]=c):=fun c r e h=>by
  subst e;rw [bK yY];simp
 have HS:=zW hs;clear hd hq hs;generalize hP:pre.length=P at *;clear hP;generalize hL:q++34::s=L at *;clear hL;generalize hE:q.length=E at *;clear hE;have hG:(P:Int) < (data.size:Int):=yY;have hF:P < data.size:=yY;have t0:=hA.o hF;have hj:=zW hh;have hg:=zW hu;clear hh hu;obtain ⟨wo,hm⟩:∃ wo,yK (wo=w):=⟨w,rfl⟩;go_enter func177,ntmps177
 go_wp2_with fail
 rw [show (P:Int)+1=((P+1+0:Nat):Int) by omega];go_loopg [4] (E+1) (fun gk iv wr=>∃ k:Nat,iv=.int .i64 (P+1+k:Nat)∧k≤E∧yK (k+M6 (L.drop k)=E)∧yK (wr=wo)∧E+1 - k≤gk)
 case atStart=>exact ⟨0,rfl,aO _,H0.o,hm.o.symm,yQ⟩
 case round=>
  obtain ⟨k,rfl,hk,HK,HW,hgk⟩:=hrel;clear H0;obtain ⟨p,he⟩:∃ p,p=P+1+k:=⟨_,rfl⟩;rw [←he];have hn:k < L.length:=(by have:=hg.o;omega);have hp:p < data.size:=(by have:=hg.o;have:=hj.o;omega);have hH:(p:Int) < (data.size:Int):=yY;have hc:=hi.o k p hn he hp;by_cases h34:L[k]=34
  ·have t1:((data[p].toNat:Int) != 34)=false:=(by rw [hc,h34];rfl);rcases Z4y L k hn h34 with ⟨h1,h2,h3⟩ | ⟨h2,h3⟩
   ·have hw:p+1 < data.size:=(by have:=hg.o;have:=hj.o;omega);have hx:(p:Int)+1 < (data.size:Int):=yY;have ha:=hi.o (k+1) (p+1) h1 yY hw;have t2:((data[p+1].toNat:Int)==34)=true:=(by rw [ha,h2];rfl);have hf:yK (k+2+M6 (L.drop (k+2))=E):=(by show _=_;have:=HK.o;omega);have hv:k+2≤E:=(by have:=hf.o;omega);have ht:yK ((p:Int)+2=((P+1+(k+2):Nat):Int)):=(by show _=_;omega);clear hc ha he h34 h2;go_wp2_with fail
    rw [ht.o];go_roundg (E+1 - (k+2))
    case measure=>omega
    case rel=>exact ⟨k+2,rfl,hv,hf.o,HW.o,yQ⟩
   ·have hD:k=E:=(by have:=HK.o;omega);subst hD;have hb:yK ((p:Int)+1=((P+k+2:Nat):Int)):=(by show _=_;omega);rcases HS.o with rfl | ⟨c,r,rfl,hcc⟩
    ·have hz:p+1=data.size:=(by have:=hr.o hn rfl;have:=hj.o;simp at this;omega);have hJ:(data.size:Int)≤(p:Int)+1:=yY;have hC:¬ (data.size:Int)≤(p:Int):=yY;have hB:((p:Int)+1==(data.size:Int))=true:=(by rw [cM];omega);have hI:=zW hz;clear hc he h34 h2 hz;go_wp2_with fail
     go_quiet (fail)
     go_wp2_with fail
     go_ret3
     rw [hl.o];refine ⟨?_,by rw [(HW.o.trans hm.o)];exact Q1 (aB _ _) _⟩;show Ending.returned (.tuple #[.int .i64 ((p:Int)+1),.bool true,.bool true])=_;rw [hb.o]
    ·have h1:k+1 < L.length:=(by have:=hg.o;simp at this;omega);have hw:p+1 < data.size:=(by have:=hg.o;have:=hj.o;omega);have hx:(p:Int)+1 < (data.size:Int):=yY;have ha:=(hi.o (k+1) (p+1) h1 yY hw).trans (ho.o c r rfl h1);have hC:¬ (data.size:Int)≤(p:Int):=yY;have hB:((p:Int)+1==(data.size:Int))=false:=(by rw [aI];omega);rcases hcc with rfl | rfl
     ·have t2:((data[p+1].toNat:Int)==34)=false:=(by rw [ha];rfl);have e44:((data[p+1].toNat:Int)==44)=true:=(by rw [ha];rfl);clear hc ha he h34 h2;go_wp2_with fail
      go_quiet (fail)
      go_wp2_with fail
      go_ret3
      rw [hl.o];refine ⟨?_,by rw [(HW.o.trans hm.o)];exact Q1 (aB _ _) _⟩;show Ending.returned (.tuple #[.int .i64 ((p:Int)+1),.bool true,.bool true])=_;rw [hb.o]
     ·have t2:((data[p+1].toNat:Int)==34)=false:=(by rw [ha];rfl);have e44:((data[p+1].toNat:Int)==44)=false:=(by rw [ha];rfl);have e10:((data[p+1].toNat:Int)==10)=true:=(by rw [ha];rfl);clear hc ha he h34 h2;go_wp2_with fail
      go_quiet (fail)
      go_wp2_with fail
      go_ret3
      rw [hl.o];refine ⟨?_,by rw [(HW.o.trans hm.o)];exact Q1 (aB _ _) _⟩;show Ending.returned (.tuple #[.int .i64 ((p:Int)+1),.bool true,.bool true])=_;rw [hb.o]
  ·have t1:((data[p].toNat:Int) != 34)=true:=by
    rw [hc,dZ];intro e;exact h34 (cN.1 (by exact_mod_cast e))
   have hf:yK (k+1+M6 (L.drop (k+1))=E):=(by show _=_;have:=HK.o;have:=Y1t L k hn h34;omega);have hv:k+1≤E:=(by have:=hf.o;omega);have ht:yK ((p:Int)+1=((P+1+(k+1):Nat):Int)):=(by show _=_;omega);clear hc he h34;go_wp2_with fail
   rw [ht.o];go_roundg (E+1 - (k+1))
   case measure=>omega
   case rel=>exact ⟨k+1,rfl,hv,hf.o,HW.o,yQ⟩
theorem V2r (data:fY) (pre s:List UInt8) (f:Fd) (w:World) (hd:data.data.toList=pre++(f.raw++s)) (hf:X6q f) (hs:FdEnd s) (hsz:data.size≤65536):
 Calls prog 177 #[.string data,.int .i64 (pre.length:Nat)] w (Q9i (pre.length+f.raw.length) f.quo w):=by
 obtain ⟨raw,quo⟩:=f;unfold X6q at hf;cases quo with
 | false=>exact V7z data pre raw s w hd hf hs hsz
 | true=>
   obtain ⟨q,h1,h2⟩:=hf;simp only at h1 hd ⊢;subst h1;have:=U1k data pre q s w (by rw [hd];simp) (h2 s hs.no34) hs hsz;rw [show pre.length+(34::(q++[34])).length=pre.length+q.length+2 by simp;omega];exact this
abbrev Prs:=List (UInt8×fY)
def lk:Prs→UInt8→Option fY
 | [],_=>none
 | (b,r)::ps,c=>if b=c then some r else lk ps c
def Q7p (ps:Prs) (c:UInt8):List UInt8:=match lk ps c with
 | none=>[c]
 | some r=>r.data.toList
def O1 (ps:Prs) (l:List UInt8):List UInt8:=l.flatMap (Q7p ps)
def dB (ps:Prs) (c:UInt8):Nat:=match lk ps c with
 | none=>0
 | some r=>r.size - 1
def dL (ps:Prs):List UInt8→Nat
 | []=>0
 | c::l=>dB ps c+dL ps l
def Q6f (ps:Prs):Prop:=(∀ p∈ps,2≤p.2.size∧p.2.size≤100)∧(ps.map (·.1)).Nodup
theorem Q7e:∀ (ps:Prs) (c:UInt8) (r:fY),lk ps c=some r→(c,r)∈ps
 | [],_,_,h=>by cases h
 | (b,q)::ps,c,r,h=>by
   rw [lk] at h;split at h
   ·rename_i e;injection h with h;subst e h;simp
   ·exact dQ _ (Q7e ps c r h)
theorem Z5t:∀ (ps:Prs) (c:UInt8),c∉ps.map (·.1)→lk ps c=none
 | [],_,_=>rfl
 | (b,q)::ps,c,h=>by
   rw [cA,aU,not_or] at h;rw [lk,aE (fun e=>h.1 e.symm)];exact Z5t ps c h.2
theorem Z5u:∀ (ps:Prs) (c:UInt8),c∈ps.map (·.1)→∃ r,lk ps c=some r
 | [],_,h=>by simp at h
 | (b,q)::ps,c,h=>by
   rw [lk];split
   ·exact ⟨_,rfl⟩
   ·rename_i hne;rw [cA,aU] at h;exact Z5u ps c (h.resolve_left fun e=>hne e.symm)
theorem Z6i (ps:Prs) (h:∀ p∈ps,2≤p.2.size):∀ l:List UInt8,(O1 ps l).length=l.length+dL ps l
 | []=>rfl
 | c::l=>by
   have ih:=Z6i ps h l;rw [show O1 ps (c::l)=Q7p ps c++O1 ps l from rfl,aA,ih,aG,dL];unfold Q7p dB;cases hk:lk ps c with
   | none=>simp;omega
   | some r=>
     have:=h _ (Q7e ps c r hk);simp only at this ⊢;rw [←aC];omega
theorem V1y (ps:Prs):∀ a b:List UInt8,dL ps (a++b)=dL ps a+dL ps b
 | [],b=>by simp [dL]
 | c::a,b=>by rw [aR,dL,dL,V1y ps a b,dO]
theorem Y9e (ps:Prs) (a b:List UInt8):O1 ps (a++b)=O1 ps a++O1 ps b:=by simp [O1]
theorem Y9g (ps:Prs):∀ l:List UInt8,(∀ c∈l,lk ps c=none)→O1 ps l=l
 | [],_=>rfl
 | c::l,h=>by
   rw [show O1 ps (c::l)=Q7p ps c++O1 ps l from rfl,Y9g ps l fun d hd=>h d (by simp [hd])];unfold Q7p;rw [h c yW];rfl
theorem Z4r (ps:Prs) (hp:∀ p∈ps,2≤p.2.size):∀ l:List UInt8,dL ps l=0→∀ c∈l,lk ps c=none
 | [],_,c,hc=>by simp at hc
 | d::l,h,c,hc=>by
   rw [dL] at h;rcases aU.1 hc with rfl | hc
   ·cases hk:lk ps c with
    | none=>rfl
    | some r=>
      have:=hp _ (Q7e ps c r hk);unfold dB at h;rw [hk] at h;simp only at this h;omega
   ·exact Z4r ps hp l yY c hc
def Q1w (ps:Prs) (l:List UInt8):List UInt8→Nat
 | []=>0
 | x::ks=>l.count x * dB ps x+Q1w ps l ks
theorem Y6q (ps:Prs) (l:List UInt8):∀ a b:List UInt8,Q1w ps l (a++b)=Q1w ps l a+Q1w ps l b
 | [],b=>by simp [Q1w]
 | c::a,b=>by rw [aR,Q1w,Q1w,Y6q ps l a b,dO]
def Z1q (ps:Prs) (c:UInt8):List UInt8→Nat
 | []=>0
 | x::ks=>(if x=c then dB ps x else 0)+Z1q ps c ks
theorem Y1l (ps:Prs) (c:UInt8) (l:List UInt8):∀ ks:List UInt8,Q1w ps (c::l) ks=Q1w ps l ks+Z1q ps c ks
 | []=>rfl
 | x::ks=>by
   rw [Q1w,Q1w,Z1q,Y1l ps c l ks,List.count_cons];by_cases h:c=x
   ·subst h;simp [Nat.add_mul];omega
   ·have:(c==x)=false:=(by simpa using h);rw [this,aE yX,aE (fun e=>h e.symm),cV];omega
theorem X7u (ps:Prs) (c:UInt8):∀ ks:List UInt8,c∉ks→Z1q ps c ks=0
 | [],_=>rfl
 | x::ks,h=>by
   rw [aU,not_or] at h;rw [Z1q,aE (fun e=>h.1 e.symm),X7u ps c ks h.2]
theorem Z5l (ps:Prs) (c:UInt8):∀ ks:List UInt8,ks.Nodup→c∈ks→Z1q ps c ks=dB ps c
 | [],_,h=>by simp at h
 | x::ks,hn,h=>by
   obtain ⟨h1,h2⟩:=List.nodup_cons.1 hn;rw [Z1q];by_cases e:x=c
   ·subst e;rw [aK rfl,X7u ps x ks h1,cV]
   ·rw [aE e,Z5l ps c ks h2 ((aU.1 h).resolve_left fun e2=>e e2.symm),bI]
theorem Y6p (ps:Prs) (ks:List UInt8) (hn:ks.Nodup) (hk:∀ c,c∈ks↔lk ps c≠none):∀ l:List UInt8,Q1w ps l ks=dL ps l
 | []=>by
   have:∀ ks:List UInt8,Q1w ps [] ks=0:=fun ks=>by
    induction ks with
    | nil=>rfl
    | cons x ks ih=>rw [Q1w,ih];simp
   exact this ks
 | c::l=>by
   rw [Y1l,Y6p ps ks hn hk l,dL];by_cases h:c∈ks
   ·rw [Z5l ps c ks hn h];omega
   ·rw [X7u ps c ks h];have:lk ps c=none:=by
     cases e:lk ps c with
     | none=>rfl
     | some r=>exact absurd ((hk c).2 (by rw [e];simp)) h
    unfold dB;rw [this];simp
/-! ### The three formats -/
def X2c:Prs:=[(60,⟨#[38,108,116,59]⟩),(38,⟨#[38,97,109,112,59]⟩),(123,⟨#[38,108,98,59]⟩)]
def X2d:Prs:=[(10,⟨#[92,110]⟩),(9,⟨#[92,116]⟩),(13,⟨#[92,114]⟩),(92,⟨#[92,92]⟩),(123,⟨#[92,123]⟩)]
def X2e:Prs:=[(34,⟨#[34,34]⟩),(123,⟨#[123,123]⟩)]
theorem V9c:Q6f X2c:=by unfold Q6f X2c;decide
theorem V9d:Q6f X2d:=by unfold Q6f X2d;decide
theorem V9e:Q6f X2e:=by unfold Q6f X2e;decide
theorem U3t (c:UInt8):Q7p X2c c=N5 1 c:=by
 unfold Q7p N5 X2c;rw [aK rfl];simp only [lk];by_cases h1:c=60
 ·subst h1;rfl
 ·rw [aE (fun e=>h1 e.symm),aE h1];by_cases h2:c=38
  ·subst h2;rfl
  ·rw [aE (fun e=>h2 e.symm),aE h2];by_cases h3:c=123
   ·subst h3;rfl
   ·rw [aE (fun e=>h3 e.symm),aE h3]
theorem U3u (c:UInt8):Q7p X2d c=N5 2 c:=by
 unfold Q7p N5 X2d;rw [aE yX,aK rfl];simp only [lk];by_cases h1:c=10
 ·subst h1;rfl
 ·rw [aE (fun e=>h1 e.symm),aE h1];by_cases h2:c=9
  ·subst h2;rfl
  ·rw [aE (fun e=>h2 e.symm),aE h2];by_cases h3:c=13
   ·subst h3;rfl
   ·rw [aE (fun e=>h3 e.symm),aE h3];by_cases h4:c=92
    ·subst h4;rfl
    ·rw [aE (fun e=>h4 e.symm),aE h4];by_cases h5:c=123
     ·subst h5;rfl
     ·rw [aE (fun e=>h5 e.symm),aE h5]
theorem U3v (c:UInt8):Q7p X2e c=N5 3 c:=by
 unfold Q7p N5 X2e;rw [aE yX,aE yX];simp only [lk];by_cases h1:c=34
 ·subst h1;rfl
 ·rw [aE (fun e=>h1 e.symm),aE h1];by_cases h2:c=123
  ·subst h2;rfl
  ·rw [aE (fun e=>h2 e.symm),aE h2]
theorem V0j (s:fY) (a b:Nat) (hab:a≤b) (hb:b≤s.size) (W:World):(Instr.sliceAt 9 (.string s) (some (.int .i64 (a:Int))) (some (.int .i64 (b:Int))) none).run prog W=.ok (.string (s.extract a b)) W:=by
 have h1:(a:Int)≤(b:Int):=yY;have h2:(b:Int)≤(s.size:Int):=yY;have h3:(0:Int)≤(a:Int):=yY;have h4:(0:Int)≤(b:Int):=yY;go_simp
theorem V4h {w w':World} {B:Nat} {e:TypeId} {size:Nat} {v:Value} {n:Nat} {xs:List Value} (h:w.ownsRow B e size v n xs) (hk:∀ k,v.ownBlock=some k→w'.heap[k]? =w.heap[k]?):w'.ownsRow B e size v n xs:=by
 refine ⟨h.1,?_⟩;rcases h.2 with h0 | ⟨g,cap,cur,hv,hbg,hg,rest⟩
 ·exact .inl h0
 ·refine .inr ⟨g,cap,cur,hv,hbg,?_,rest⟩;rw [hk g (by rw [hv];rfl)];exact hg
theorem X7y (k:Int) (t:fY) (d:Int) (w:World) (ht:k=1→t.size≤1000000000000000000):
 Calls prog 87 #[.agg #[.int .i64 k,.string t,.int .i64 d]] w fun e w'=>e=.returned (.int .i64 (wdI ⟨k,t,d⟩:Nat))∧Below w.heap.size w w':=by
 obtain ⟨V,HV⟩:∃ V,yK (wdI ⟨k,t,d⟩=V):=⟨_,rfl⟩;rw [HV.o];unfold wdI at HV;have hb:=zW ((aB w.heap.size w).alloc yQ (.cells #[.int .i64 k,.string t,.int .i64 d] 31));by_cases hk:k=1
 ·subst hk;rw [aK rfl] at HV;have ha:=ht rfl;clear ht;go_enter func87,ntmps87
  go_wp2_with fail
  go_ret
  exact ⟨by rw [←HV.o];rfl,hb.o⟩
 ·rw [aE hk] at HV;have t1:(k==1)=false:=(by simpa using hk);go_enter func87,ntmps87
  go_wp2_with fail
  go_ret
  exact ⟨by rw [←HV.o];rfl,hb.o⟩
theorem Q1f (f:List Tk) (v:Value) (w:World) (h1:RdT w v f) (hl:X3 f≤1000000000000000000) (hfl:f.length≤1000000):
 Calls prog 62 #[v] w fun e w'=>e=.returned (.int .i64 (X3 f:Nat))∧Below w.heap.size w w':=by
 obtain ⟨A,c,rfl,_,_⟩:=h1.shape;have H1:=zW h1;clear h1;go_enter func62,ntmps62
 go_wp2_with fail
 obtain ⟨wo,hi⟩:∃ wo,yK (wo=w):=⟨w,rfl⟩;go_loopg [3,5,8] f.length (fun gk nv xv jv wr=>∃ k n:Nat,nv=.int .i64 n∧jv=.int .i64 k∧k≤f.length∧yK (n=X3 (f.take k))∧yK (Below w.heap.size w wr)∧f.length - k≤gk)
 case atStart=>exact ⟨0,0,rfl,rfl,aO _,by show _=_;rw [cW];rfl,aB _ _,yY⟩
 case round=>
  clear hi;obtain ⟨k,n,rfl,rfl,hk,HN,HB,hgk⟩:=hrel;by_cases hkl:k < f.length
  ·have hp:(k:Int) < (f.length:Int):=yY;have ho:(0:Int)≤(k:Int):=yY;obtain ⟨b,o,rfl,hd,q1,q2,q3⟩:=RdT.at_ H1.o k hkl;rw [←HB.o.cell (p:=⟨b,o+k * 3,none⟩) hd] at q1;rw [←HB.o.cell (p:=⟨b,o+k * 3+1,none⟩) hd] at q2;rw [←HB.o.cell (p:=⟨b,o+k * 3+2,none⟩) hd] at q3;have hn:=HB.o.size;have hm:b < wr.heap.size:=yY;have ha:=Q5q f (k+1);have he:=R2 f k hkl;rw [he,←HN.o] at ha;have hc:yK (n+wdI f[k]=X3 (f.take (k+1))):=by
    show _=_;rw [he,←HN.o]
   clear he;generalize f[k]=x at q1 q2 q3 hc ha;obtain ⟨xk,xt,xd⟩:=x;simp only at q1 q2 q3;have hg:xk=1→xt.size≤1000000000000000000:=fun e=>by
    have:wdI ⟨xk,xt,xd⟩=xt.size:=(by unfold wdI;rw [aK e]);omega
   have hf:=zW (fun u=>X7y xk xt xd u hg);generalize wdI ⟨xk,xt,xd⟩=z at hf hc ha;have hs:n+z≤1000000000000000000:=yY;have HX:yK ((wr.alloc (.cells #[.int .i64 xk,.string xt,.int .i64 xd] 31)).heap[wr.heap.size]? =some (.cells #[.int .i64 xk,.string xt,.int .i64 xd] 31)):=aT wr _;have hb:=zW (HB.o.alloc hn (.cells #[.int .i64 xk,.string xt,.int .i64 xd] 31));clear hg ha;go_upto_region 5 with fail
   generalize wr.alloc (.cells #[.int .i64 xk,.string xt,.int .i64 xd] 31)=w3 at HX hb ⊢;obtain ⟨q,hq⟩:∃ q,yK (q=wr.heap.size):=⟨_,rfl⟩;rw [←hq.o] at HX ⊢;have hr:q < w3.heap.size:=(aN.1 HX.o).1;clear q1 q2 q3;obtain ⟨x0,x1,x2,_⟩:=bx3 HX.o;go_wp2_with (go_at_call 87;refine (hf.o _).mono ?_;rintro e w4 ⟨rfl,hj⟩;have hh:=zW (hb.o.trans (hj.mono hb.o.size)))
   go_roundg (f.length - (k+1))
   case measure=>omega
   case rel=>exact ⟨k+1,n+z,rfl,rfl,yY,hc.o,hh.o,yY⟩
  ·obtain rfl:k=f.length:=yY;have e:n=X3 f:=(by rw [HN.o,aW]);go_wp2_with fail
   go_ret
   exact ⟨by rw [←e];rfl,HB.o⟩
theorem V8x (x:Tk) (a p q:Nat):pcI x a p q=if max p a < min q (a+wdI x) then [⟨x.k,if x.k=1 then x.t.extract (max p a - a) (min q (a+wdI x) - a) else x.t,x.d⟩] else []:=by
 unfold pcI wdI;by_cases hx:x.k=1
 ·rw [aE yY,aK hx,aK hx];by_cases h:max p a < min q (a+x.t.size)
  ·rw [aK h,aK yY,hx]
  ·rw [aE h,aE yY]
 ·rw [aK hx,aE hx,aE hx];by_cases h:max p a < min q (a+1)
  ·rw [aK h,aK yY]
  ·rw [aE h,aE yY]
theorem Q9u (f:List Tk) (v:Value) (p q:Nat) (w:World) (h1:RdT w v f) (hl:X3 f≤1000000000000000000) (hfl:f.length≤1000000) (hpq:p≤q) (hq:q≤X3 f):
 Calls prog 47 #[v,.int .i64 (p:Int),.int .i64 (q:Int)] w (Z4b w (slI f 0 p q)):=by
 obtain ⟨R,hH⟩:∃ R,yK (R=Z4b w (slI f 0 p q)):=⟨_,rfl⟩;rw [←hH.o];obtain ⟨A,c,rfl,_,_⟩:=h1.shape;have HL:=zW (Q1f f _ w h1 hl hfl);have H1:=zW h1;clear h1;have Hc:¬ (p:Int) < 0:=yY;have Hd:¬ (q:Int) < (p:Int):=yY;have He:(p:Int)≤(q:Int):=yY;obtain ⟨n,hn⟩:∃ n,yK (n=X3 f):=⟨_,rfl⟩;rw [←hn.o] at hl hq HL;have Hb:¬ (n:Int) < (q:Int):=yY;have hV:decide (n < q)=false:=cD yY;go_enter func47,ntmps47
 go_upto_region 6 with (go_at_call 62;refine HL.o.mono ?_;rintro e w1 ⟨rfl,hI⟩;have hc:=zW hI)
 clear hI;obtain ⟨wo,hO⟩:∃ wo,yK (wo=w1):=⟨w1,rfl⟩;go_loopg [8,9,11,12,13,14,30] f.length (fun gk ov av xv nv lv hv jv wr=>∃ k at_:Nat,av=.int .i64 at_∧jv=.int .i64 k∧k≤f.length∧yK (at_=X3 (f.take k))∧yK (OwnE 31 tkC 3 wr w.heap.size ov (slI (f.take k) 0 p q))∧yK (Below w.heap.size w wr)∧f.length - k≤gk)
 case atStart=>exact ⟨0,0,rfl,rfl,aO _,by (show _=_);rw [cW];rfl,OwnE.nil,hc.o,yY⟩
 case round=>
  clear hO hc;obtain ⟨k,a0,rfl,rfl,hk,HA,HO,HB,hgk⟩:=hrel;by_cases hkl:k < f.length
  ·have Ha:(k:Int) < (f.length:Int):=yY;have hZ:(0:Int)≤(k:Int):=yY;obtain ⟨b,o,rfl,hC,q1,q2,q3⟩:=RdT.at_ H1.o k hkl;have hY:=HB.o.size;rw [←HB.o.cell (p:=⟨b,o+k * 3,none⟩) hC] at q1;rw [←HB.o.cell (p:=⟨b,o+k * 3+1,none⟩) hC] at q2;rw [←HB.o.cell (p:=⟨b,o+k * 3+2,none⟩) hC] at q3;have hQ:b < wr.heap.size:=yY;have hh:=Q5q f (k+1);have ha:=zW (Z0g f p q k hkl);have he:=zW (R2 f k hkl);rw [he.o,←HA.o] at hh;rw [←HA.o] at ha he;rw [V8x] at ha;have hE:=X6m (f.take k) 0 p q;rw [bG] at hE;obtain ⟨Ao,co,hF⟩:=Q0 HO.o;generalize hol0:(slI (f.take k) 0 p q).length=no at hF hE;subst hF;have hb:=zW hol0;clear hol0;have hW:no≤1000000:=yY;clear hE;generalize f[k]=x at q1 q2 q3 ha he hh;obtain ⟨xk,xt,xd⟩:=x;simp only at q1 q2 q3;rw [←hn.o] at hh;have ho:xk=1→wdI ⟨xk,xt,xd⟩=xt.size:=fun e=>by unfold wdI;rw [aK e]
   have hK:xk=1→xt.size≤1000000000000000000:=fun e=>by have:=ho e;omega
   have hz:=zW (fun u=>X7y xk xt xd u hK);generalize wdI ⟨xk,xt,xd⟩=z at hz ha he hh ho;have hN:=zW ho;have Hf:a0+z≤1000000000000000000:=yY;have HX:yK ((wr.alloc (.cells #[.int .i64 xk,.string xt,.int .i64 xd] 31)).heap[wr.heap.size]? =some (.cells #[.int .i64 xk,.string xt,.int .i64 xd] 31)):=aT wr _;have hc:=zW (HB.o.alloc hY (.cells #[.int .i64 xk,.string xt,.int .i64 xd] 31));have ht:=zW (aD HO.o (.cells #[.int .i64 xk,.string xt,.int .i64 xd] 31));clear hK hh ho;go_upto_region 8 with fail
   generalize wr.alloc (.cells #[.int .i64 xk,.string xt,.int .i64 xd] 31)=w3 at HX hc ht ⊢;obtain ⟨g,hg⟩:∃ g,yK (g=wr.heap.size):=⟨_,rfl⟩;rw [←hg.o] at HX ⊢;have hJ:g < w3.heap.size:=(aN.1 HX.o).1;clear q1 q2 q3;obtain ⟨x0,x1,x2,_⟩:=bx3 HX.o;go_upto_region 9 with (go_at_call 87;refine (hz.o _).mono ?_;rintro e w4 ⟨rfl,hb4⟩)
   have hr:=zW (hc.o.trans (hb4.mono hc.o.size));have hA:=zW ((hb4.block g hJ).trans HX.o);have hu:=zW (U1 ht.o hb4 yQ);have hp:yK (a0+z=X3 (f.take (k+1))):=he.o.symm;have hR:g < w4.heap.size:=(aN.1 hA.o).1;have hM:yK (∀ j,(Value.slice Ao no co).ownBlock=some j→j < g):=fun j hj=>by have:=(HO.o.lt j hj).2;rw [hg.o];exact this
   clear hb4 HX hc ht x0 x1 x2 hz hJ HO HB he;go_upto_region 10 with fail
   rw [show max (p:Int) (a0:Int)=((max p a0:Nat):Int) by omega,show min (q:Int) ((a0:Int)+(z:Int))=((min q (a0+z):Nat):Int) by omega];have hU:a0≤max p a0:=yY;have hT:min q (a0+z)≤a0+z:=yY;generalize max p a0=lo at ha hU ⊢;generalize min q (a0+z)=hi at ha hT ⊢;obtain ⟨x0,x1,x2,y0,y1,y2⟩:=bx3 hA.o;by_cases hlh:lo < hi
   ·have hD:(lo:Int) < (hi:Int):=yY;rw [aK hlh] at ha;by_cases hx:xk=1
    ·subst hx;rw [aK rfl] at ha;have hL:xt.size=z:=(hN.o rfl).symm;obtain ⟨y,hy⟩:∃ y:fY,yK (y=xt.extract (lo - a0) (hi - a0)):=⟨_,rfl⟩;rw [←hy.o] at ha;have hX:(Instr.sliceAt 9 (.string xt) (some (.int .i64 ((lo:Int) - (a0:Int)))) (some (.int .i64 ((hi:Int) - (a0:Int)))) none).run prog w4=.ok (.string y) w4:=by
      have h1:(lo:Int) - (a0:Int)=((lo - a0:Nat):Int):=yY;have h2:(hi:Int) - (a0:Int)=((hi - a0:Nat):Int):=yY;rw [h1,h2,hy.o];exact V0j xt _ _ yY yY w4
     have hP:=zW hL;clear hL;have h3:(hi:Int) - (a0:Int)≤(xt.size:Int):=(by have:=hP.o;omega);go_upto_region 13 with fail
     have hB:yK ((w4.setCell ⟨g,1,none⟩ (.string y)).heap[g]? =some (.cells #[.int .i64 1,.string y,.int .i64 xd] 31)):=W8 hA.o 1 _;have hd:=zW (hr.o.setCell (p:=⟨g,1,none⟩) (by show _≤g;have:=hg.o;omega) (.string y));have hm:yK (OwnE 31 tkC 3 (w4.setCell ⟨g,1,none⟩ (.string y)) w.heap.size (.slice Ao no co) (slI (f.take k) 0 p q)):=V4h hu.o (fun j hj=>eV _ _ _ _ (fun e=>by have:=hM.o j hj;have e2:j=g:=e;omega));clear x0 x1 x2 y0 y1 y2 hX h3;generalize w4.setCell ⟨g,1,none⟩ (.string y)=w5 at hB hd hm ⊢;obtain ⟨x0,x1,x2,y0,y1,y2⟩:=bx3 hB.o;have hS:g < w5.heap.size:=(aN.1 hB.o).1;have hG:=hd.o.size;have hf:=zW (aD hm.o (.cells (tkC ⟨1,y,xd⟩).toArray 31));go_wp2_with (at_builtin;go_must (refine Z7 rfl (.tmp 60) (.tmp 62) 24 31 rfl underlying24 _ 3 32 Z8 rfl yX w.heap.size (.slice Ao no co) no ((slI (f.take k) 0 p q).flatMap tkC) rfl (by have h:=hf.o;simp only [hb.o] at h;exact h) ⟨w5.heap.size,0,none⟩ 1 (tkC ⟨1,y,xd⟩) rfl rfl (by exact N4 _ _ _) (D4 _) yY yX yV ?_);intro g9 cap9 w9 hown9 hg9 hbel9 hgr9)
     have hw:yK (OwnE 31 tkC 3 w9 w.heap.size (.slice (some ⟨g9,0,none⟩) (no+1) cap9) (slI (f.take (k+1)) 0 p q)):=by
      show OwnE _ _ _ _ _ _ _;rw [ha.o];refine OwnE.snoc (f:=tkC) ?_;rw [hb.o];exact hown9
     have hs:=zW (hbel9 _ _ yQ (hd.o.alloc hG (.cells (tkC ⟨1,y,xd⟩).toArray 31)));clear hown9 hbel9 hgr9 hf;go_wp2_with fail
     go_roundg (f.length - (k+1))
     case measure=>omega
     case rel=>exact ⟨k+1,a0+z,rfl,rfl,yY,hp.o,hw.o,hs.o,yY⟩
    ·have t1:(xk==1)=false:=(by simpa using hx);rw [aE hx] at ha;have hm:=hu;have hd:=hr;have hG:=hd.o.size;have hf:=zW (aD hm.o (.cells (tkC ⟨xk,xt,xd⟩).toArray 31));go_wp2_with (at_builtin;go_must (refine Z7 rfl (.tmp 60) (.tmp 62) 24 31 rfl underlying24 _ 3 32 Z8 rfl yX w.heap.size (.slice Ao no co) no ((slI (f.take k) 0 p q).flatMap tkC) rfl (by have h:=hf.o;simp only [hb.o] at h;exact h) ⟨w4.heap.size,0,none⟩ 1 (tkC ⟨xk,xt,xd⟩) rfl rfl (by exact N4 _ _ _) (D4 _) yY yX yV ?_);intro g9 cap9 w9 hown9 hg9 hbel9 hgr9)
     have hw:yK (OwnE 31 tkC 3 w9 w.heap.size (.slice (some ⟨g9,0,none⟩) (no+1) cap9) (slI (f.take (k+1)) 0 p q)):=by
      show OwnE _ _ _ _ _ _ _;rw [ha.o];refine OwnE.snoc (f:=tkC) ?_;rw [hb.o];exact hown9
     have hs:=zW (hbel9 _ _ yQ (hd.o.alloc hG (.cells (tkC ⟨xk,xt,xd⟩).toArray 31)));clear hown9 hbel9 hgr9 hf;go_wp2_with fail
     go_roundg (f.length - (k+1))
     case measure=>omega
     case rel=>exact ⟨k+1,a0+z,rfl,rfl,yY,hp.o,hw.o,hs.o,yY⟩
   ·have hD:¬ (lo:Int) < (hi:Int):=yY;rw [aE hlh,aX] at ha;go_wp2_with fail
    go_roundg (f.length - (k+1))
    case measure=>omega
    case rel=>exact ⟨k+1,a0+z,rfl,rfl,yY,hp.o,by (show OwnE _ _ _ _ _ _ _);rw [ha.o];exact hu.o,hr.o,yY⟩
  ·obtain rfl:k=f.length:=yY;rw [aW] at HO;obtain ⟨Ao,co,hF⟩:=Q0 HO.o;go_wp2_with fail
   rw [hH.o];exact ⟨_,rfl,HO.o,HB.o⟩
theorem Q8n:∀ (f:List Tk) (i:Nat) (x:Tk),Normal f→f[i]? =some x→x.k=1→x.t.size≠0∧x.d=0
 | [],i,x,_,h,_=>by simp at h
 | y::f,0,x,hn,h,hk=>by
   injection h with h;subst h;exact ⟨(hn.1 hk).1,(hn.1 hk).2.1⟩
 | y::f,i+1,x,hn,h,hk=>Q8n f i x hn.2 h hk
theorem Q7f:∀ (f:List Tk) (i:Nat) (x y:Tk),Normal f→f[i]? =some y→f[i+1]? =some x→x.k=1→y.k≠1
 | [],i,x,y,_,h,_,_=>by simp at h
 | z::f,0,x,y,hn,h,h1,hk=>by
   injection h with h;subst h;intro hz;cases f with
   | nil=>simp at h1
   | cons q f=>
     injection h1 with h1;exact (hn.1 hz).2.2 q rfl (by rw [h1];exact hk)
 | z::f,i+1,x,y,hn,h,h1,hk=>Q7f f i x y hn.2 h h1 hk
theorem Q6y (k:Int) (t:fY) (d:Int) (w:World) (h:k=2∨k=3∨k=4):
 Calls prog 76 #[.agg #[.int .i64 k,.string t,.int .i64 d]] w fun e w'=>e=.returned (.bool true)∧Below w.heap.size w w':=by
 have HB:=zW ((aB w.heap.size w).alloc yQ (.cells #[.int .i64 k,.string t,.int .i64 d] 31));rcases h with rfl | rfl | rfl
 all_goals (
  go_enter func76,ntmps76
  go_wp2_with fail
  go_ret
  exact ⟨rfl,HB.o⟩)
theorem X6c (k:Int) (t:fY) (d:Int) (w:World) (h:k=1∨k=5):
 Calls prog 76 #[.agg #[.int .i64 k,.string t,.int .i64 d]] w fun e w'=>e=.returned (.bool false)∧Below w.heap.size w w':=by
 have HB:=zW ((aB w.heap.size w).alloc yQ (.cells #[.int .i64 k,.string t,.int .i64 d] 31));rcases h with rfl | rfl
 all_goals (
  go_enter func76,ntmps76
  go_wp2_with fail
  go_ret
  exact ⟨rfl,HB.o⟩)
theorem Y0d (f:List Tk) (v:Value) (i:Nat) (m:Int) (w:World) (hm:w.cell? ⟨0,0,none⟩=some (.int .i64 m)) (h1:RdT w v f) (hi:i < f.length) (hfl:f.length≤1000000) (hn:Normal f) (hw:WfI f[i]) (hs:f[i].t.size≤1000000):
 Calls prog 75 #[v,.int .i64 i] w fun e w'=>e=.returned (.bool true)∧Below w.heap.size w w':=by
 obtain ⟨A,c,rfl,_,_⟩:=h1.shape;obtain ⟨b,o,rfl,hf,q1,q2,q3⟩:=RdT.at_ h1 i hi;have hx:f[i]? =some f[i]:=aF hi;have ha:∀ j,i=j+1→f[i].k=1→∃ kp:Int,w.cell? ⟨b,o+j * 3,none⟩=some (.int .i64 kp)∧(kp != 1)=true:=by
  intro j hj hk;obtain ⟨b',o',hA,_,p1,_,_⟩:=RdT.at_ h1 j yY;injection hA with hA;injection hA with e1 e2;subst e1 e2;refine ⟨_,p1,?_⟩;have:=Q7f f j f[i] f[j] hn (aF yY) (by rw [←hj];exact hx) hk;simpa using this
 have hb:=Q8n f i f[i] hn hx;generalize f[i]=x at q1 q2 q3 hw hs ha hb;obtain ⟨k,t,d⟩:=x;simp only at q1 q2 q3 hs ha hb;have hg:(i:Int) < (f.length:Int):=yY;have ho:(0:Int)≤(i:Int):=yY;have HB:=zW ((aB w.heap.size w).alloc yQ (.cells #[.int .i64 k,.string t,.int .i64 d] 31));have HM:yK ((w.alloc (.cells #[.int .i64 k,.string t,.int .i64 d] 31)).cell? ⟨0,0,none⟩=some (.int .i64 m)):=(by show _=_;rw [dK _ _ _ (Q3d hm)];exact hm);clear h1 hx hn hm;generalize f.length=n at hi hfl hg;rcases hw with hk | ⟨hk,hnm,hd⟩ | ⟨hk,hct,hd1,hd2⟩ | ⟨hk,hnm,hd1,hd2⟩
 ·have hk':k=1:=hk;subst hk';obtain ⟨a1,a2⟩:=hb rfl;subst a2;have hl:(t.toList != [])=true:=by
   rw [dZ,Y7];intro h;exact a1 (by rw [aC,h];rfl)
  have hc:¬ t.toList=[]:=(by simpa using hl);clear hb a1;cases i with
  | zero=>
    clear ha;rw [Nat.zero_mul,cV] at q1 q2 q3;go_enter func75,ntmps75
    go_wp2_with fail
    go_ret
    exact ⟨K0 (by first | rfl | simp [hc]),HB.o⟩
  | succ j=>
    obtain ⟨kp,p1,he⟩:=ha j rfl rfl;have hh:¬ kp=1:=(by simpa using he);have hr:¬ ((j+1:Nat):Int)=0:=yY;have hp:(((j+1:Nat):Int)==0)=false:=(by rw [aI];omega);have hq:((j+1:Nat):Int) - 1=(j:Int):=yY;have p1':(w.alloc (.cells #[.int .i64 1,.string t,.int .i64 0] 31)).cell? ⟨b,o+j * 3,none⟩=some (.int .i64 kp):=(by rw [dK _ _ _ hf];exact p1);clear ha;go_enter func75,ntmps75
    go_wp2_with fail
    go_ret
    exact ⟨K0 (by first | rfl | exact he | simp [he,hc]),HB.o⟩
 ·have hk':k=5:=hk;have hd':d=0:=hd;subst hk' hd';have CN:=zW (fun w=>M7 t w (by unfold maxLen;omega));rw [show U3 t.data.toList=true from hnm] at CN;clear ha hb hnm;go_enter func75,ntmps75
  go_wp2_with (go_at_call 114;refine (CN.o _).mono ?_;rintro e w' ⟨rfl,rfl⟩)
  go_ret
  exact ⟨rfl,HB.o⟩
 ·have hd1':(1:Int)≤d:=hd1;have hd2':d≤999:=hd2;have CC:=zW (fun w hm=>Q3u t m w hm hct);clear ha hb hct;rcases hk with hk | hk
  ·have hk':k=2:=hk;subst hk';clear hk;go_enter func75,ntmps75
   go_wp2_with (go_at_call 115;refine (CC.o _ HM.o).mono ?_;rintro e w' ⟨rfl,n1,rfl⟩)
   go_ret
   exact ⟨K0 (by simp [hd1',hd2']),Q1 HB.o n1⟩
  ·have hk':k=4:=hk;subst hk';clear hk;go_enter func75,ntmps75
   go_wp2_with (go_at_call 115;refine (CC.o _ HM.o).mono ?_;rintro e w' ⟨rfl,n1,rfl⟩)
   go_ret
   exact ⟨K0 (by simp [hd1',hd2']),Q1 HB.o n1⟩
 ·have hk':k=3:=hk;subst hk';have hd1':(1:Int)≤d:=hd1;have hd2':d≤999:=hd2;have CN:=zW (fun w=>M7 t w (by unfold maxLen;omega));rw [show U3 t.data.toList=true from hnm] at CN;clear ha hb hnm hk;go_enter func75,ntmps75
  go_wp2_with (go_at_call 114;refine (CN.o _).mono ?_;rintro e w' ⟨rfl,rfl⟩)
  go_ret
  exact ⟨K0 (by simp [hd1',hd2']),HB.o⟩
theorem V8r (s:fY) (m:Int) (w:World) (hs:s.size≤1000000) (hm:w.cell? ⟨0,0,none⟩=some (.int .i64 m)):
 Calls prog 116 #[.string s] w fun e w'=>e=.returned (.string (J8 s))∧∃ n,w'=w.drewN n:=by
 have hcut:=X7h s.data.toList;have HC:=zW (Tryz.strings_Cut s (⟨#[32]⟩:fY) m w yY hm);have HN:yK ((⟨(Lib.cut s.data.toList [32]).1.toArray⟩:fY)=J8 s):=by
  show _=_;rw [hcut,←Q9y]
 rw [←HN.o];clear hcut HN;generalize Lib.cut s.data.toList [32]=cc at HC ⊢;go_enter func116,ntmps116
 go_wp2_with (go_at_call 80;refine (HC.o).mono ?_;rintro e w1 ⟨rfl,n1,rfl⟩)
 go_ret
 exact ⟨rfl,n1,rfl⟩
theorem V2t (f:List Tk) (v:Value) (xk:Int) (xt:fY) (xd m:Int) (w:World) (hm:w.cell? ⟨0,0,none⟩=some (.int .i64 m)) (h1:RdT w v f) (hfl:f.length≤1000000) (hx:N7 ⟨xk,xt,xd⟩) (hk:∀ y∈f,y.k=1∨y.k=5∨y.k=2∨y.k=3∨y.k=4) (hs:∀ y∈f,y.t.size≤1000000) (hfit:∀ y∈f,Y3h y ⟨xk,xt,xd⟩):
 Calls prog 77 #[v,.agg #[.int .i64 xk,.string xt,.int .i64 xd]] w fun e w'=>e=.returned (.bool true)∧Below w.heap.size w w':=by
 obtain ⟨R,hE⟩:∃ R:Ending→World→Prop,yK (R=fun e w'=>e=.returned (.bool true)∧Below w.heap.size w w'):=⟨_,rfl⟩;rw [←hE.o];obtain ⟨A,c,rfl,_,_⟩:=h1.shape;have hF:=Q3d hm;have ht:yK ((w.alloc (.cells #[.int .i64 xk,.string xt,.int .i64 xd] 31)).heap[w.heap.size]? =some (.cells #[.int .i64 xk,.string xt,.int .i64 xd] 31)):=aY;have hy:=zW ((aB w.heap.size w).alloc yQ (.cells #[.int .i64 xk,.string xt,.int .i64 xd] 31));have hz:yK ((w.alloc (.cells #[.int .i64 xk,.string xt,.int .i64 xd] 31)).cell? ⟨0,0,none⟩=some (.int .i64 m)):=(by show _=_;rw [dK _ _ _ hF];exact hm);have H1:yK (RdT (w.alloc (.cells #[.int .i64 xk,.string xt,.int .i64 xd] 31)) (.slice A f.length c) f):=RdE.alloc h1 _;have hv:w.heap.size < (w.alloc (.cells #[.int .i64 xk,.string xt,.int .i64 xd] 31)).heap.size:=yW;have HK:=zW hk;have hH:=zW hs;have HF:=zW hfit;have HT:=zW hx;obtain ⟨p,hp⟩:∃ p,yK (p=w.heap.size):=⟨_,rfl⟩;clear h1 hm hF hk hs hfit hx;go_enter func77,ntmps77
 go_upto_region 1 with fail
 rw [←hp.o] at ht hv ⊢;generalize w.alloc (.cells #[.int .i64 xk,.string xt,.int .i64 xd] 31)=w0 at ht hy hz H1 hv ⊢;go_wp2_with fail
 go_loopg [9] f.length (fun gk iv wr=>∃ i:Nat,iv=.int .i64 i∧i≤f.length∧yK (Below w0.heap.size w0 wr)∧f.length - i≤gk)
 case atStart=>exact ⟨0,rfl,aO _,aB _ _,yQ⟩
 case round=>
  obtain ⟨i,rfl,hi,HB,hgk⟩:=hrel;by_cases hlt:i < f.length
  ·have hK:(i:Int) < (f.length:Int):=yY;have hJ:(0:Int)≤(i:Int):=yY;obtain ⟨b,o,hA,hB,p0,p1,p2⟩:=RdT.at_ H1.o i hlt;subst hA;have hc:=aL hlt;have hC:=HK.o _ hc;have hD:=hH.o _ hc;have hu:=HF.o _ hc;clear hc;generalize f[i]=y at p0 p1 p2 hC hD hu;obtain ⟨yk,yt,yd⟩:=y;simp only at p0 p1 p2 hC hD;have q0:=(HB.o.cell (p:=⟨b,o+i * 3,none⟩) hB).trans p0;have q1:=(HB.o.cell (p:=⟨b,o+i * 3+1,none⟩) hB).trans p1;have q2:=(HB.o.cell (p:=⟨b,o+i * 3+2,none⟩) hB).trans p2;clear p0 p1 p2;have hI:=HB.o.size;have HY:yK ((wr.alloc (.cells #[.int .i64 yk,.string yt,.int .i64 yd] 31)).heap[wr.heap.size]? =some (.cells #[.int .i64 yk,.string yt,.int .i64 yd] 31)):=aY;have hb:=zW (HB.o.alloc hI (.cells #[.int .i64 yk,.string yt,.int .i64 yd] 31));have hw:wr.heap.size < (wr.alloc (.cells #[.int .i64 yk,.string yt,.int .i64 yd] 31)).heap.size:=yW;obtain ⟨q,hq⟩:∃ q,yK (q=wr.heap.size):=⟨_,rfl⟩;go_upto_region 4 with fail
   rw [←hq.o] at HY hw ⊢;generalize wr.alloc (.cells #[.int .i64 yk,.string yt,.int .i64 yd] 31)=w1 at HY hb hw ⊢;obtain ⟨y0,y1,y2,_⟩:=bx3 HY.o;by_cases htag:yk=2∨yk=3∨yk=4
   ·by_cases hd:yd=xd
    ·obtain ⟨e1,e2,e3⟩:=hu htag HT.o hd;have e1':xk=3:=e1;have e2':yk=2:=e2;have e3':J8 yt=xt:=e3;subst e1' e2' hd;have ho:=zW (fun w hm=>V8r yt m w hD hm);rw [e3'] at ho;clear e1 e2 e3 hu hC;have CT:=zW (Q6y 2 yt yd w1 htag);go_wp2_with (go_at_call 76;refine (CT.o).mono ?_;rintro e w2 ⟨rfl,ha⟩;have hr:=zW ha;have hG:=ha.size;have hh:yK (w2.heap[p]? =some (.cells #[.int .i64 3,.string xt,.int .i64 yd] 31)):=(ha.block p (by have:=hb.o.size;omega)).trans ((hb.o.block p hv).trans ht.o);have hj:yK (w2.heap[q]? =some (.cells #[.int .i64 2,.string yt,.int .i64 yd] 31)):=(ha.block q hw).trans HY.o;have x2:=(bx3 hh.o).2.2.1;have z2:=(bx3 hj.o).2.2.1;have hg:=zW (hb.o.trans (ha.mono (hb.o.size)));clear ha)
     obtain ⟨x0,x1,_⟩:=bx3 hh.o;obtain ⟨z0,z1,_⟩:=bx3 hj.o;have hn:yK (w2.cell? ⟨0,0,none⟩=some (.int .i64 m)):=(hg.o.cell (p:=⟨0,0,none⟩) (Q3d hz.o)).trans hz.o;clear y0 y1 y2 x2 z2 CT HY hb hr;generalize w2=w3 at hh hj x0 x1 z0 z1 hn hg hG ⊢;refine zqR (l0:=#[false,false,false,false,false,false,false,false,false,false,false,false,false,false,false,false]) 16 rfl ?_;refine zqF 0 23 (.pointer (some ⟨p,0,none⟩)) rfl rfl (.pointer (some ⟨p,0,none⟩)) ?_;simp only [Act.put,zZ,zY,zX];refine zqo 1 rfl ?_;refine zqL (.int .i64 3) rfl (.pointer (some ⟨p,0,none⟩)) (F3 (w:=w3.drew) x0) ?_;refine zqB 2 25 (.bool false) rfl rfl (.int .i64 3) (.int .i64 3) ?_;refine zqM 3 26 (.bool false) rfl ?_;refine zqF 4 27 (.pointer (some ⟨q,0,none⟩)) rfl rfl (.pointer (some ⟨q,0,none⟩)) ?_;simp only [Act.put,zZ,zY,zX];refine zqo 5 rfl ?_;refine zqL (.int .i64 2) rfl (.pointer (some ⟨q,0,none⟩)) (F3 (w:=w3.drew) z0) ?_;refine zqB 6 29 (.bool false) rfl rfl (.int .i64 2) (.int .i64 2) ?_;refine zqP 7 30 (.bool false) rfl rfl false ?_;refine zqM 8 31 (.bool false) rfl ?_;refine zqF 9 32 (.pointer (some ⟨q,1,none⟩)) rfl rfl (.pointer (some ⟨q,0,none⟩)) ?_;refine zqF 12 35 (.pointer (some ⟨p,1,none⟩)) rfl rfl (.pointer (some ⟨p,0,none⟩)) ?_;simp only [Act.put,zZ,zY,zX];refine zqt 10 13 rfl rfl ?_ ?_;refine zqL (.string yt) rfl (.pointer (some ⟨q,1,none⟩)) (D8 (w:=w3.drew) z1) ?_;simp only [Act.put,zZ,zY,zX];refine zqt 11 13 rfl rfl ?_ ?_;refine Q1r (.string yt) rfl func116 (ho.o _ (by exact hn.o)) ?_;rintro e w1 ⟨rfl,n1,rfl⟩;refine ⟨.string xt,rfl,?_⟩;simp only [Act.put,zZ,zY,zX];refine zqo 13 rfl ?_;refine zqL (.string xt) rfl (.pointer (some ⟨p,1,none⟩)) (D8 (w:=w3.drew.drewN n1) x1) ?_;refine zqB 14 37 (.bool false) rfl rfl (.string xt) (.string xt) ?_;refine zqP 15 38 (.bool false) rfl rfl false ?_;refine bW yZ ?_ _;simp only [Act.put,zZ,zY,zX];have he:yK (∃ n,w3.drew.drewN n1=w3.drewN n):=⟨1+n1,by simp⟩;obtain ⟨n2,hf⟩:=he.o;rw [hf];clear hf he;rotate_left 1
     refine zqL (.string xt) rfl (.pointer (some ⟨p,1,none⟩)) (D8 (w:=w3.drew) x1) ?_;simp only [Act.put,zZ,zY,zX];refine zqo 11 rfl ?_;refine Q1r (.string yt) rfl func116 (ho.o _ (by exact hn.o)) ?_;rintro e w1 ⟨rfl,n1,rfl⟩;refine ⟨.string xt,rfl,?_⟩;refine zqB 14 37 (.bool false) rfl rfl (.string xt) (.string xt) ?_;refine zqP 15 38 (.bool false) rfl rfl false ?_;refine bW yZ ?_ _;simp only [Act.put,zZ,zY,zX];have he:yK (∃ n,w3.drew.drewN n1=w3.drewN n):=⟨1+n1,by simp⟩;obtain ⟨n2,hf⟩:=he.o;rw [hf];clear hf he;rotate_left 1
     refine zqL (.string xt) rfl (.pointer (some ⟨p,1,none⟩)) (D8 (w:=w3.drew) x1) ?_;simp only [Act.put,zZ,zY,zX];refine zqo 10 rfl ?_;refine zqL (.string yt) rfl (.pointer (some ⟨q,1,none⟩)) (D8 (w:=w3.drew) z1) ?_;simp only [Act.put,zZ,zY,zX];refine zqo 11 rfl ?_;refine Q1r (.string yt) rfl func116 (ho.o _ (by exact hn.o)) ?_;rintro e w1 ⟨rfl,n1,rfl⟩;refine ⟨.string xt,rfl,?_⟩;refine zqB 14 37 (.bool false) rfl rfl (.string xt) (.string xt) ?_;refine zqP 15 38 (.bool false) rfl rfl false ?_;refine bW yZ ?_ _;simp only [Act.put,zZ,zY,zX];have he:yK (∃ n,w3.drew.drewN n1=w3.drewN n):=⟨1+n1,by simp⟩;obtain ⟨n2,hf⟩:=he.o;rw [hf];clear hf he;all_goals (
      have hl:=zW (Q1 hg.o n2);clear hg hn x0 x1 z0 z1 hh hj;generalize w3.drewN n2=w4 at hl ⊢;go_wp2_with fail
      go_roundg (f.length - (i+1))
      case measure=>omega
      case rel=>exact ⟨i+1,by go_num,hlt,hl.o,yY⟩)
    ·have hL:(yd != xd)=true:=(by simpa using hd);clear hu;have CT:=zW (Q6y yk yt yd w1 htag);go_wp2_with (go_at_call 76;refine (CT.o).mono ?_;rintro e w2 ⟨rfl,ha⟩;have hr:=zW ha;have hG:=ha.size;have hh:yK (w2.heap[p]? =some (.cells #[.int .i64 xk,.string xt,.int .i64 xd] 31)):=(ha.block p (by have:=hb.o.size;omega)).trans ((hb.o.block p hv).trans ht.o);have hj:yK (w2.heap[q]? =some (.cells #[.int .i64 yk,.string yt,.int .i64 yd] 31)):=(ha.block q hw).trans HY.o;have x2:=(bx3 hh.o).2.2.1;have z2:=(bx3 hj.o).2.2.1;have hg:=zW (hb.o.trans (ha.mono (hb.o.size)));clear ha)
     go_roundg (f.length - (i+1))
     case measure=>omega
     case rel=>exact ⟨i+1,by go_num,hlt,hg.o,yY⟩
   ·have CT:=zW (X6c yk yt yd w1 yY);go_wp2_with (go_at_call 76;refine (CT.o).mono ?_;rintro e w2 ⟨rfl,ha⟩;have hr:=zW ha;clear ha)
    go_roundg (f.length - (i+1))
    case measure=>omega
    case rel=>exact ⟨i+1,by go_num,hlt,hb.o.trans (hr.o.mono hb.o.size),yY⟩
  ·obtain rfl:i=f.length:=yY;go_wp2_with fail
   first | go_ret | skip
   rw [hE.o];exact ⟨rfl,hy.o.trans (HB.o.mono hy.o.size)⟩
theorem Q6e (f:List Tk) (v:Value) (m:Int) (w:World) (hm:w.cell? ⟨0,0,none⟩=some (.int .i64 m)) (h1:RdT w v f) (hv:ValF f) (hs:∀ y∈f,y.t.size≤1000000):
 Calls prog 37 #[v] w fun e w'=>e=.returned (.int .i64 0)∧Below w.heap.size w w':=by
 obtain ⟨R,hp⟩:∃ R:Ending→World→Prop,yK (R=fun e w'=>e=.returned (.int .i64 0)∧Below w.heap.size w w'):=⟨_,rfl⟩;rw [←hp.o];obtain ⟨A,c,rfl,hC,_⟩:=h1.shape;have hJ:=hv.len;have hD:=hv.pos;have CL:=zW (Q1f f _ w h1 yY yY);generalize X3 f=ln at hD CL;have H1:=zW h1;have HV:=zW hv;have HM:=zW hm;have hr:=zW hs;have t1:¬ (512:Int) < (f.length:Int):=yY;have t2:¬ (1024:Int) < (ln:Int):=yY;clear h1 hv hm hs;go_enter func37,ntmps37
 go_wp2_with (go_at_call 62;refine (CL.o).mono ?_;rintro e w0 ⟨rfl,hx⟩;have hz:=zW hx;clear hx)
 go_loopg [15] f.length (fun gk iv wr=>∃ i:Nat,iv=.int .i64 i∧i≤f.length∧yK (Below w.heap.size w wr)∧f.length - i≤gk)
 case atStart=>exact ⟨0,rfl,aO _,hz.o,yQ⟩
 case round=>
  obtain ⟨i,rfl,hi,HB,hgk⟩:=hrel;by_cases hlt:i < f.length
  ·have hI:(i:Int) < (f.length:Int):=yY;have hH:(0:Int)≤(i:Int):=yY;obtain ⟨b,o,hA,hn,p0,p1,p2⟩:=RdT.at_ H1.o i hlt;subst hA;have hb:=aL hlt;have hh:=HV.o.wf _ hb;have hw:=hr.o _ hb;have hF:=HB.o.size;have ho:yK (∀ wx,Below w.heap.size w wx→wx.cell? ⟨0,0,none⟩=some (.int .i64 m)):=fun wx h=>X8 HM.o h;have CW:=zW (fun wx (h:Below w.heap.size w wx)=>Y0d f _ i m wx (ho.o wx h) (RdE.below H1.o h yQ) hlt yY HV.o.nrm hh hw);have hc:∀ y∈f.take i,Y3h y f[i]:=by
    intro y hy;obtain ⟨j,hj,rfl⟩:=List.mem_iff_getElem.1 hy;rw [bG] at hj;rw [List.getElem_take];exact (fG.1 HV.o.fit) j i yY hlt yY
   have CF:yK (N7 f[i]→∀ wx,Below w.heap.size w wx→Calls prog 77 #[.slice (some ⟨b,o,none⟩) i c,.agg #[.int .i64 f[i].k,.string f[i].t,.int .i64 f[i].d]] wx fun e w'=>e=.returned (.bool true)∧Below wx.heap.size wx w'):=fun ht wx h=>
    V2t (f.take i) _ f[i].k f[i].t f[i].d m wx (ho.o wx h) (by
     have:=RdE.take (RdE.below H1.o h yQ) i (cS hlt);exact this) (by rw [bG];omega) ht (fun y hy=>by
     rcases HV.o.wf y (bY hy) with h | ⟨h,_⟩ | ⟨h,_⟩ | ⟨h,_⟩
     ·exact .inl h
     ·exact .inr (.inl h)
     ·omega
     ·omega) (fun y hy=>hr.o y (bY hy)) hc
   clear hc hb hw;have q0:=(HB.o.cell (p:=⟨b,o+i * 3,none⟩) hn).trans p0;have q1:=(HB.o.cell (p:=⟨b,o+i * 3+1,none⟩) hn).trans p1;have q2:=(HB.o.cell (p:=⟨b,o+i * 3+2,none⟩) hn).trans p2;generalize f[i]=x at p0 p1 p2 q0 q1 q2 hh CF;obtain ⟨xk,xt,xd⟩:=x;simp only at p0 p1 p2 q0 q1 q2 CF;clear p0 p1 p2;have HY:yK ((wr.alloc (.cells #[.int .i64 xk,.string xt,.int .i64 xd] 31)).heap[wr.heap.size]? =some (.cells #[.int .i64 xk,.string xt,.int .i64 xd] 31)):=aY;have he:=zW (HB.o.alloc hF (.cells #[.int .i64 xk,.string xt,.int .i64 xd] 31));have hk:wr.heap.size < (wr.alloc (.cells #[.int .i64 xk,.string xt,.int .i64 xd] 31)).heap.size:=yW;obtain ⟨q,hq⟩:∃ q,yK (q=wr.heap.size):=⟨_,rfl⟩;go_upto_region 6 with fail
   rw [←hq.o] at HY hk ⊢;generalize wr.alloc (.cells #[.int .i64 xk,.string xt,.int .i64 xd] 31)=w1 at HY he hk ⊢;go_wp2_with (go_at_call 75;refine (CW.o _ he.o).mono ?_;rintro e w2 ⟨rfl,hg⟩;have hf:=zW (he.o.trans (hg.mono he.o.size));have hu:yK (w2.heap[q]? =some (.cells #[.int .i64 xk,.string xt,.int .i64 xd] 31)):=(hg.block q hk).trans HY.o;have hE:q < w2.heap.size:=bC hk hg.size;clear hg)
   obtain ⟨y0,y1,y2,_⟩:=bx3 hu.o;have hG:(i:Int)≤(c:Int):=yY;by_cases htag:xk=2∨xk=3∨xk=4
   ·have CT:=zW (Q6y xk xt xd w2.drew htag);have CF:=zW (CF.o htag);refine zqR (l0:=#[false,false,false,false,false,false,false,false,false,false]) 10 rfl ?_;refine zqo 0 rfl ?_;refine zqL (.agg #[.int .i64 xk,.string xt,.int .i64 xd]) rfl (.pointer (some ⟨q,0,none⟩)) (X8c (w:=w2.drew) y0 y1 y2) ?_;simp only [Act.put,zZ,zY,zX];refine zqo 1 rfl ?_;refine Q1r (.agg #[.int .i64 xk,.string xt,.int .i64 xd]) rfl func76 (CT.o) ?_;rintro e w5 ⟨rfl,hw5⟩;have ha:=zW ((eC hf.o).trans (hw5.mono hf.o.size));have hB:yK (w5.heap[q]? =some (.cells #[.int .i64 xk,.string xt,.int .i64 xd] 31)):=(hw5.block q hE).trans hu.o;obtain ⟨z0,z1,z2,_⟩:=bx3 hB.o;refine ⟨.bool true,rfl,?_⟩;refine zqM 2 26 (.bool true) rfl ?_;refine zqM 3 27 (.slice (some ⟨b,o,none⟩) f.length c) rfl ?_;refine zqM 4 28 (.int .i64 (i:Int)) rfl ?_;refine zzA 5 (.slice (some ⟨b,o,none⟩) i c) (some 29) rfl (fun _=>X1j 24 _ _ _ (.slice (some ⟨b,o,none⟩) f.length c) _ none (some (.int .i64 (i:Int))) rfl yZ yZ yZ yU) ?_;simp only [Act.put,zZ,zY,zX];refine zqo 6 rfl ?_;refine zqL (.agg #[.int .i64 xk,.string xt,.int .i64 xd]) rfl (.pointer (some ⟨q,0,none⟩)) (X8c z0 z1 z2) ?_;simp only [Act.put,zZ,zY,zX];refine zqo 7 rfl ?_;refine Q0s (.slice (some ⟨b,o,none⟩) i c) (.agg #[.int .i64 xk,.string xt,.int .i64 xd]) rfl func77 (CF.o _ ha.o) ?_;rintro e w6 ⟨rfl,hw6⟩;have hl:=zW (ha.o.trans (hw6.mono ha.o.size));refine ⟨.bool true,rfl,?_⟩;simp only [Act.put,zZ,zY,zX];refine zzA 8 (.bool false) (some 32) rfl (fun _=>V7v .not 4 _ (.bool true) _ rfl yZ yU) ?_;refine zqP 9 33 (.bool false) rfl rfl true ?_;refine bW yZ ?_ _;simp only [Act.put,zZ,zY,zX]
    go_wp2_with fail
    go_roundg (f.length - (i+1))
    case measure=>omega
    case rel=>exact ⟨i+1,by go_num,hlt,hl.o,yY⟩
   ·have hd:xk=1∨xk=5:=by
     rcases hh with h | ⟨h,_⟩ | ⟨h,_⟩ | ⟨h,_⟩
     ·exact .inl h
     ·exact .inr h
     ·exact absurd (by rcases h with h | h;exact .inl h;exact .inr (.inr h)) htag
     ·exact absurd (.inr (.inl h)) htag
    have CT:=zW (X6c xk xt xd w2.drew hd);clear hd hh CF;refine zqR (l0:=#[false,false,false,false,false,false,false,false,false,false]) 10 rfl ?_;refine zqo 0 rfl ?_;refine zqL (.agg #[.int .i64 xk,.string xt,.int .i64 xd]) rfl (.pointer (some ⟨q,0,none⟩)) (X8c (w:=w2.drew) y0 y1 y2) ?_;simp only [Act.put,zZ,zY,zX];refine zqo 1 rfl ?_;refine Q1r (.agg #[.int .i64 xk,.string xt,.int .i64 xd]) rfl func76 (CT.o) ?_;rintro e w5 ⟨rfl,hw5⟩;have ha:=zW ((eC hf.o).trans (hw5.mono hf.o.size));refine ⟨.bool false,rfl,?_⟩;refine zqM 2 26 (.bool false) rfl ?_;refine zqS 3 27 rfl ?_;refine zqS 4 28 rfl ?_;refine zqS 5 29 rfl ?_;refine zqS 6 30 rfl ?_;refine zqS 7 31 rfl ?_;refine zqS 8 32 rfl ?_;refine zqP 9 33 (.bool false) rfl rfl false ?_;refine bW yZ ?_ _;simp only [Act.put,zZ,zY,zX]
    go_wp2_with fail
    go_roundg (f.length - (i+1))
    case measure=>omega
    case rel=>exact ⟨i+1,by go_num,hlt,ha.o,yY⟩
  ·obtain rfl:i=f.length:=yY;go_wp2_with fail
   first | go_ret | skip
   rw [hp.o];exact ⟨rfl,HB.o⟩
def Q9h (s:fY):List Value:=[.string s]
def BytesAt (w:World) (v:Value) (r:fY):Prop:=∃ (g c:Nat) (cur:Array Value) (fr:Nat×Nat),v=.slice (some ⟨g,0,none⟩) r.size c∧r.size≤c∧w.heap[g]? =some (.cells cur 5 fr)∧∀ (j:Nat) (u:Value),(Go.Lib.strCells r)[j]? =some u→cur[j]? =some u
theorem BytesAt.keep {w w':World} {v:Value} {r:fY} (h:BytesAt w v r) (hk:∀ (g:Nat) (cur:Array Value) (fr:Nat×Nat),w.heap[g]? =some (.cells cur 5 fr)→w'.heap[g]? =w.heap[g]?):BytesAt w' v r:=by
 obtain ⟨g,c,cur,fr,hv,hc,hg,hx⟩:=h;exact ⟨g,c,cur,fr,hv,hc,(hk g cur fr hg).trans hg,hx⟩
structure BsIn (w:World) (Q:Nat) (ps:Prs) (ks:List UInt8) (cs:List Value) (tv:Value):Prop where
 box:w.heap[Q]? =some (.cells cs.toArray 239)
 len:cs.length=257
 at_:∀ b:UInt8,∃ v,cs[b.toNat]? =some v∧(lk ps b=none→v=.slice none 0 0)∧(∀ r,lk ps b=some r→BytesAt w v r)
 tov:cs[256]? =some tv
 tos:RdE Q9h 1 w tv (ks.map fun b=>(⟨#[b]⟩:fY))
theorem BsIn.below {w w':World} {Q:Nat} {ps:Prs} {ks:List UInt8} {cs:List Value} {tv:Value} (h:BsIn w Q ps ks cs tv) (hb:Below w.heap.size w w'):BsIn w' Q ps ks cs tv:=by
 refine ⟨(hb.block Q (aN.1 h.box).1).trans h.box,h.len,fun b=>?_,h.tov,RdE.below h.tos hb yQ⟩;obtain ⟨v,h1,h2,h3⟩:=h.at_ b;exact ⟨v,h1,h2,fun r hr=>(h3 r hr).keep fun g cur fr hg=>hb.block g (aN.1 hg).1⟩
theorem BsIn.cell {w:World} {Q:Nat} {ps:Prs} {ks:List UInt8} {cs:List Value} {tv:Value} (h:BsIn w Q ps ks cs tv) (b:UInt8):(lk ps b=none∧w.cell? ⟨Q,b.toNat,none⟩=some (.slice none 0 0))∨∃ r g c,lk ps b=some r∧r.size≤c∧w.cell? ⟨Q,b.toNat,none⟩=some (.slice (some ⟨g,0,none⟩) r.size c)∧g < w.heap.size∧∀ j u,(Go.Lib.strCells r)[j]? =some u→w.cell? ⟨g,j,none⟩=some u:=by
 obtain ⟨v,h1,h2,h3⟩:=h.at_ b;have hc:=Z9 h.box b.toNat h1;cases hk:lk ps b with
 | none=>rw [h2 hk] at hc;exact .inl ⟨rfl,hc⟩
 | some r=>
   obtain ⟨g,c,cur,fr,rfl,ha,hg,hx⟩:=h3 r hk;refine .inr ⟨r,g,c,rfl,ha,hc,(aN.1 hg).1,fun j u hj=>?_⟩;rw [World.cell?,hg];exact hx j u hj
theorem U0o (ps:Prs) (h:∀ p∈ps,p.2.size≤100):∀ l:List UInt8,dL ps l≤100 * l.length
 | []=>yQ
 | c::l=>by
   have ih:=U0o ps h l;rw [dL,aG];have:dB ps c≤100:=by
    unfold dB;cases hk:lk ps c with
    | none=>simp
    | some r=>
      have:=h _ (Q7e ps c r hk);simp only at this ⊢;omega
   omega
def bv (c:UInt8):Value:=.int .u8 (c.toNat:Int)
def Q1a (l:List UInt8) (N:Nat):List Value:=l.map bv++List.replicate (N - l.length) (.int .u8 0)
theorem X0w (l:List UInt8) (N:Nat) (h:l.length≤N):(Q1a l N).length=N:=by
 unfold Q1a;rw [aA,bA,List.length_replicate];omega
theorem X6z (l m:List UInt8) (N:Nat) (h:l.length+m.length≤N):Q1a l N=l.map bv++(List.replicate m.length (.int .u8 0)++List.replicate (N - (l++m).length) (.int .u8 0)):=by
 unfold Q1a;rw [List.replicate_append_replicate,aA];congr 2;omega
theorem Z1b (l m:List UInt8) (N:Nat) (h:l.length+m.length≤N):splice (Q1a l N) l.length (m.map bv)=Q1a (l++m) N:=by
 unfold splice;rw [X6z l m N h,bA];have e1:l.length=(l.map bv).length:=yW;have e2:l.length+m.length=(l.map bv++List.replicate m.length (Value.int .u8 0)).length:=yW;rw [show (l.map bv++(List.replicate m.length (Value.int .u8 0)++List.replicate (N - (l++m).length) (Value.int .u8 0))).take l.length=l.map bv by
  conv=>lhs;rw [e1]
  exact eH]
 rw [←aZ (l.map bv) (m.map bv),←aZ (l.map bv),show ((l.map bv++List.replicate m.length (Value.int .u8 0))++List.replicate (N - (l++m).length) (Value.int .u8 0)).drop (l.length+m.length)=List.replicate (N - (l++m).length) (Value.int .u8 0) by
  conv=>lhs;rw [e2]
  exact dR]
 unfold Q1a;rw [cP]
theorem V7f (l:List UInt8) (c:UInt8) (N:Nat) (h:l.length < N):(Q1a l N).set l.length (bv c)=Q1a (l++[c]) N:=by
 rw [X6z l [c] N yV];unfold Q1a;have e1:l.length=(l.map bv).length:=yW;conv=>lhs;rw [e1]
 rw [eZ _ _ yW];simp
theorem V1p (N:Nat):madeCells #[.int .u8 0] (N * 1)=(Q1a [] N).toArray:=by
 unfold Q1a madeCells;apply Array.ext
 ·simp
 ·intro i h1 h2;simp [Nat.mod_one]
theorem U0x (l:List UInt8) (N j:Nat) (hj:j=l.length) (h:j < N):(Q1a l N)[j]? =some (.int .u8 0):=by
 subst hj;rw [X6z l [0] N yV,bF yW];simp
theorem U0f:(prog.info? 5).map (·.size)=some 1:=by kernel_rfl
theorem V6i:(prog.info? 5).map (fun i=>(i.zero,i.size,i.bytes))=some (some (.int .u8 0),1,1):=by kernel_rfl
theorem Y9w (n:Nat) (hn:n≤100000000) (w:World):(Instr.makeSlice 89 (.int .i64 (n:Int)) (.int .i64 (n:Int))).run prog w=.ok (.slice (some ⟨w.heap.size,0,none⟩) n n) (w.alloc (.cells (Q1a [] n).toArray 5)):=by
 obtain ⟨i,hi,hz,hs,hb⟩:=fF V6i;have h:=run_make (P:=prog) w 89 5 i _ underlying89 hi hz .i64 .i64 (n:Int) (n:Int) yY (Int.le_refl _) (by rw [hb];omega) yY;rw [hs] at h;rw [←V1p];exact h
theorem Y5a (ps:Prs) (l:List UInt8) (i:Nat):(O1 ps (l.take i)).length≤(O1 ps l).length:=by
 conv=>rhs;rw [←bR i l,Y9e,aA]
 omega
theorem Y0l (Q:Nat) (ps:Prs) (ks:List UInt8) (cs:List Value) (tv:Value) (s:fY) (w:World) (h:BsIn w Q ps ks cs tv) (hp:Q6f ps) (hkn:ks.Nodup) (hkm:∀ c,c∈ks↔lk ps c≠none) (hkl:ks.length≤10) (hs:s.size≤100000):
 Calls prog 266 #[.pointer (some ⟨Q,0,none⟩),.string s] w fun e w'=>e=.returned (.string (ofL (O1 ps s.data.toList)))∧Below w.heap.size w w':=by
 obtain ⟨R,hO⟩:∃ R:Ending→World→Prop,yK (R=fun e w'=>e=.returned (.string (ofL (O1 ps s.data.toList)))∧Below w.heap.size w w'):=⟨_,rfl⟩;rw [←hO.o];obtain ⟨A,c,rfl,hX,_⟩:=h.tos.shape;rw [bA] at hX;have HI:w.cell? ⟨Q,256,none⟩=some (.slice A ks.length c):=by
  have:=Z9 h.box 256 h.tov;rwa [bA] at this
 have HT:yK (RdE Q9h 1 w (.slice A ks.length c) (ks.map fun b=>(⟨#[b]⟩:fY))):=by
  have:=h.tos;rwa [bA] at this
 have H:=zW h;have HP:=zW hp;have Hr:=zW hkn;have Hd:=zW hkm;have HA:((ks.length:Int) * 8)≤80:=yY;clear h hp hkn hkm;go_enter func266,ntmps266
 go_upto_if 26 with fail
 go_cut [5,6] (fun nv av wx=>∃ (b:Bool),nv=.int .i64 (s.size+dL ps s.data.toList:Nat)∧av=.bool b∧yK (b=false→dL ps s.data.toList=0)∧yK (b=true→1≤dL ps s.data.toList)∧yK (Below w.heap.size w wx))
 case first=>
  have hY:∀ x,(s.data.toList.count x)≤s.size:=fun x=>by rw [aC];exact List.count_le_length
  by_cases hbig:(ks.length:Int) * 8≤(s.size:Int)
  ·have hQ:yK (Q1w ps s.data.toList ks=dL ps s.data.toList):=Y6p ps ks Hr.o Hd.o _;go_wp2_with fail
   rw [show decide ((ks.length:Int) * 8≤(s.size:Int))=true by simpa using hbig];go_loopg [5,6,32] ks.length (fun gk nv av iv wr=>∃ (i N:Nat) (b:Bool),iv=.int .i64 i∧nv=.int .i64 (N:Nat)∧av=.bool b∧i≤ks.length∧yK (N=s.size+Q1w ps s.data.toList (ks.take i))∧N≤s.size+i * 10000000∧yK (b=false→Q1w ps s.data.toList (ks.take i)=0)∧yK (b=true→1≤Q1w ps s.data.toList (ks.take i))∧yK (Below w.heap.size w wr)∧ks.length - i≤gk)
   case atStart=>exact ⟨0,s.size,false,rfl,rfl,rfl,aO _,rfl,yY,fun _=>rfl,(fun h=>by cases h),aB _ _,yQ⟩
   case round=>
    obtain ⟨i,N,b,rfl,rfl,rfl,hi,HN,Hg,HZ,he,HW,hgk⟩:=hrel;have HT:=zW (RdE.below HT.o HW.o yQ);have H:=zW (H.o.below HW.o);have HI:wr.cell? ⟨Q,256,none⟩=some (.slice A ks.length c):=by
     have:=Z9 H.o.box 256 H.o.tov;rwa [bA] at this
    by_cases hlt:i < ks.length
    ·have Hk:(i:Int) < (ks.length:Int):=yY;have Hj:(0:Int)≤(i:Int):=yY;obtain ⟨bb,oo,hA,HL,hk⟩:=HT.o.cells yV;have q0:=hk i (⟨#[ks[i]]⟩:fY) 0 (.string (⟨#[ks[i]]⟩:fY)) (by simp [aF hlt]) rfl;rw [show oo+(i * 1+0)=oo+i by omega] at q0;subst hA;have hy:lk ps ks[i]≠none:=(Hd.o _).1 (aL hlt);have hu:ks.take (i+1)=ks.take i++[ks[i]]:=aH hlt;have Hh:=hY ks[i];have hC:=Tryz.strings_Count_one s ks[i] wr;have Hx:∀ (z:UInt8) h,((⟨#[z]⟩:fY)[0]'h).toNat=z.toNat:=fun _ _=>rfl;have ha:=eG ks[i];have hl:Q1w ps s.data.toList (ks.take (i+1))=Q1w ps s.data.toList (ks.take i)+s.data.toList.count ks[i] * dB ps ks[i]:=by
      rw [hu,Y6q];rfl
     have hd:=zW hl;have HC:=zW hC;have hF:=H.o.cell ks[i];have hc:∀ r,lk ps ks[i]=some r→2≤r.size∧r.size≤100:=fun r hr=>HP.o.1 _ (Q7e ps _ r hr);have hdB:∀ r,lk ps ks[i]=some r→dB ps ks[i]=r.size - 1:=fun r hr=>by unfold dB;rw [hr]
     clear hC hl hu hk;generalize ks[i]=x at q0 hy Hh Hx ha hd HC hF hc hdB;rcases hF with ⟨hn,_⟩ | ⟨r,g,c2,hr,hc2,hcl,hg,_⟩
     ·exact absurd hn hy
     ·obtain ⟨Hn,ho⟩:=hc r hr;rw [hdB r hr] at hd;clear hc hdB hy hr;change yK (Calls _ _ _ wr fun e w'=>e=.returned (.int .i64 ((s.data.toList.count x:Nat):Int))∧w'=wr) at HC
      generalize s.data.toList.count x=k at Hh hd HC;by_cases hk0:k=0
      ·subst hk0;rw [Nat.zero_mul,cV] at hd;have hx:yK (N=s.size+Q1w ps s.data.toList (ks.take (i+1))):=(by show _=_;rw [hd.o];exact HN.o);have hV:N≤s.size+(i+1) * 10000000:=aP Hg (Nat.add_le_add_left (Nat.mul_le_mul_right _ (Nat.le_succ i)) _);have hT:yK (b=false→Q1w ps s.data.toList (ks.take (i+1))=0):=fun hb=>by rw [hd.o];exact HZ.o hb
       have hU:yK (b=true→1≤Q1w ps s.data.toList (ks.take (i+1))):=fun hb=>by rw [hd.o];exact he.o hb
       go_wp2_with (go_at_call 268;refine (HC.o).mono ?_;rintro e w' ⟨rfl,rfl⟩)
       go_roundg (ks.length - (i+1))
       case measure=>omega
       case rel=>exact ⟨i+1,N,b,by go_num,rfl,rfl,hlt,hx.o,hV,hT.o,hU.o,HW.o,yY⟩
      ·have HB:((k:Int) != 0)=true:=(by simpa using hk0);have HD:¬ (k:Int)=0:=yY;obtain ⟨p,hP⟩:∃ p,yK (p=k * (r.size - 1)):=⟨_,rfl⟩;have HR:p≤10000000:=by
        rw [hP.o];calc k * (r.size - 1)≤100000 * 100:=Nat.mul_le_mul yY yY
         _=10000000:=yX
       have HS:1≤p:=by
        rw [hP.o];exact Nat.mul_pos yY yY
       have HH:(k:Int) * ((r.size:Int) - 1)=(p:Int):=by
        rw [hP.o,Int.natCast_mul,Int.natCast_sub yY];rfl
       rw [←hP.o] at hd;have HK:(i:Nat) * 10000000≤100000000:=yY;have hx:yK (N+p=s.size+Q1w ps s.data.toList (ks.take (i+1))):=(by show _=_;rw [hd.o,HN.o];omega);go_wp2_with (go_at_call 268;refine (HC.o).mono ?_;rintro e w' ⟨rfl,rfl⟩)
       go_region
       all_goals (
        go_wp2_with fail
        go_roundg (ks.length - (i+1))
        case measure=>omega
        case rel=>exact ⟨i+1,N+p,true,by go_num,by go_num,rfl,hlt,hx.o,yY,(fun hb=>by cases hb),(fun _=>by rw [hd.o];omega),HW.o.drew,yY⟩)
    ·obtain rfl:i=ks.length:=yY;rw [aW,hQ.o] at HN HZ he;have hN:=HN.o;go_wp2_with fail
     go_meet
     exact ⟨b,by rw [hN],rfl,HZ.o,he.o,HW.o⟩
  ·have He:=zW (aC s);go_wp2_with fail
   rw [show decide ((ks.length:Int) * 8≤(s.size:Int))=false by simpa using hbig];go_loopg [5,6,10] s.size (fun gk nv av iv wr=>∃ (i N:Nat) (b:Bool),iv=.int .i64 i∧nv=.int .i64 (N:Nat)∧av=.bool b∧i≤s.size∧yK (N=s.size+dL ps (s.data.toList.take i))∧N≤s.size+i * 100∧yK (b=false→dL ps (s.data.toList.take i)=0)∧yK (b=true→1≤dL ps (s.data.toList.take i))∧yK (Below w.heap.size w wr)∧s.size - i≤gk)
   case atStart=>exact ⟨0,s.size,false,rfl,rfl,rfl,aO _,rfl,yY,fun _=>rfl,(fun h=>by cases h),aB _ _,yQ⟩
   case round=>
    obtain ⟨i,N,b,rfl,rfl,rfl,hi,HN,Hg,HZ,he,HW,hgk⟩:=hrel;have H:=zW (H.o.below HW.o);by_cases hlt:i < s.size
    ·have Hk:(i:Int) < (s.size:Int):=yY;have Hj:(0:Int)≤(i:Int):=yY;have hu:s.data.toList.take (i+1)=s.data.toList.take i++[s[i]]:=by
      rw [aH (by rw [←He.o];exact hlt)];rfl
     have hw:yK (dL ps (s.data.toList.take (i+1))=dL ps (s.data.toList.take i)+dB ps s[i]):=by
      show _=_;rw [hu,V1y];rfl
     have hF:=H.o.cell s[i];have hc:∀ r,lk ps s[i]=some r→2≤r.size∧r.size≤100:=fun r hr=>HP.o.1 _ (Q7e ps _ r hr);have hdB:∀ r,lk ps s[i]=some r→dB ps s[i]=r.size - 1:=fun r hr=>by unfold dB;rw [hr]
     have ha:=eG s[i];clear hu;rcases hF with ⟨hn,hcl⟩ | ⟨r,g,c2,hr,hc2,hcl,hg,_⟩
     ·have Hi:dB ps s[i]=0:=(by unfold dB;rw [hn]);rw [Hi,cV] at hw;have hx:yK (N=s.size+dL ps (s.data.toList.take (i+1))):=(by show _=_;rw [hw.o];exact HN.o);have hT:yK (b=false→dL ps (s.data.toList.take (i+1))=0):=fun hb=>by rw [hw.o];exact HZ.o hb
      have hU:yK (b=true→1≤dL ps (s.data.toList.take (i+1))):=fun hb=>by rw [hw.o];exact he.o hb
      clear hc hdB hn Hi;go_wp2_with fail
      go_roundg (s.size - (i+1))
      case measure=>omega
      case rel=>exact ⟨i+1,N,b,by go_num,rfl,rfl,hlt,hx.o,yY,hT.o,hU.o,HW.o,yY⟩
     ·obtain ⟨Hn,ho⟩:=hc r hr;rw [hdB r hr] at hw;clear hc hdB hr;have HU:((r.size:Int) - 1)=((r.size - 1:Nat):Int):=yY;have hx:yK (N+(r.size - 1)=s.size+dL ps (s.data.toList.take (i+1))):=(by show _=_;rw [hw.o,HN.o];omega);go_wp2_with fail
      first | (go_region;all_goals go_wp2_with fail) | skip
      all_goals (
       go_roundg (s.size - (i+1))
       case measure=>omega
       case rel=>exact ⟨i+1,N+(r.size - 1),true,by go_num,by first | go_num | (congr 1;omega),rfl,hlt,hx.o,yY,(fun hb=>by cases hb),(fun _=>by rw [hw.o];omega),(by first | exact HW.o | exact HW.o.drew),yY⟩)
    ·obtain rfl:i=s.size:=yY;rw [show s.data.toList.take s.size=s.data.toList by rw [He.o];exact aW] at HN HZ he;have hN:=HN.o;go_wp2_with fail
     go_meet
     exact ⟨b,by rw [hN],rfl,HZ.o,he.o,HW.o⟩
 case rest=>
  obtain ⟨b,rfl,rfl,HZ,he,HW⟩:=hcut;have hf:=Z6i ps (fun p hp=>(HP.o.1 p hp).1) s.data.toList;rw [←aC] at hf;have hZ:=U0o ps (fun p hp=>(HP.o.1 p hp).2) s.data.toList;rw [←aC] at hZ;cases b with
  | false=>
    have ht:O1 ps s.data.toList=s.data.toList:=Y9g ps _ (Z4r ps (fun p hp=>(HP.o.1 p hp).1) _ (HZ.o rfl));have HE:yK (ofL (O1 ps s.data.toList)=s):=(by show _=_;rw [ht];exact X0a s);clear hf hZ ht;go_wp2_with fail
    first | go_ret | skip
    rw [hO.o];exact ⟨by rw [HE.o],HW.o⟩
  | true=>
    have Hz:=he.o rfl;obtain ⟨N,hM⟩:∃ N,yK (N=s.size+dL ps s.data.toList):=⟨_,rfl⟩;have hE:yK ((O1 ps s.data.toList).length=N):=(by show _=_;rw [hM.o];exact hf);have HJ:1≤N:=(by rw [hM.o];omega);have Hw:N≤100000000:=(by rw [hM.o];omega);rw [←hM.o];have HF:=Y9w N Hw;have hJ:=HW.o.size;have hK:yK ((wc.alloc (.cells (Q1a [] N).toArray 5)).heap[wc.heap.size]? =some (.cells (Q1a [] N).toArray 5)):=aY;have hR:=zW (HW.o.alloc hJ (.cells (Q1a [] N).toArray 5));have Hc:=zW (aC s);clear HZ he Hz hf hZ;obtain ⟨G,hG⟩:∃ G,yK (G=wc.heap.size):=⟨_,rfl⟩;go_upto_region 22 with fail
    rw [←hG.o] at hK hJ ⊢;generalize wc.alloc (.cells (Q1a [] N).toArray 5)=w1 at hK hR ⊢;clear HF HW hG;go_wp2_with fail
    go_loopg [13,14] s.size (fun gk jv iv wr=>∃ i,iv=.int .i64 (i:Nat)∧jv=.int .i64 ((O1 ps (s.data.toList.take i)).length:Nat)∧i≤s.size∧yK (wr.heap[G]? =some (.cells (Q1a (O1 ps (s.data.toList.take i)) N).toArray 5))∧yK (Below w.heap.size w wr)∧s.size - i≤gk)
    case atStart=>exact ⟨0,rfl,rfl,aO _,hK.o,hR.o,yQ⟩
    case round=>
     clear hK hR;obtain ⟨i,rfl,rfl,hi,HG,HW,hgk⟩:=hrel;by_cases hlt:i < s.size
     ·have Hk:(i:Int) < (s.size:Int):=yY;have Hj:(0:Int)≤(i:Int):=yY;have H:=zW (H.o.below HW.o);have hu:s.data.toList.take (i+1)=s.data.toList.take i++[s[i]]:=by
       rw [aH (by rw [←Hc.o];exact hlt)];rfl
      have hh:yK (O1 ps (s.data.toList.take (i+1))=O1 ps (s.data.toList.take i)++Q7p ps s[i]):=by
       show _=_;rw [hu,Y9e];simp [O1]
      have hm:=Y5a ps s.data.toList (i+1);rw [hh.o,hE.o,aA] at hm;have hF:=H.o.cell s[i];have hz:lk ps s[i]=none→Q7p ps s[i]=[s[i]]:=fun hq=>by unfold Q7p;rw [hq]
      have hB:∀ r,lk ps s[i]=some r→Q7p ps s[i]=r.data.toList:=fun r hq=>by unfold Q7p;rw [hq]
      have hc:∀ r,lk ps s[i]=some r→2≤r.size∧r.size≤100:=fun r hr=>HP.o.1 _ (Q7e ps _ r hr);have ha:=eG s[i];clear hu;obtain ⟨pre,Ha⟩:∃ pre,yK (pre=O1 ps (s.data.toList.take i)):=⟨_,rfl⟩;rw [←Ha.o] at hh hm HG ⊢;rcases hF with ⟨hn,hcl⟩ | ⟨r,g,c2,hr,hc2,hcl,hgl,hgc⟩
      ·rw [hz hn] at hh hm;simp only [bZ] at hm;clear hz hB hc hn;have Hl:(0:Int)≤(pre.length:Int):=yY;have Hm:(pre.length:Int) < (N:Int):=yY;have p0:wr.cell? ⟨G,pre.length,none⟩=some (.int .u8 0):=Z9 HG.o pre.length (U0x pre N _ rfl yY);have f0:=Y6 HG.o pre.length;have hL:yK ((wr.setCell ⟨G,pre.length,none⟩ (.int .u8 (s[i].toNat:Int))).heap[G]? =some (.cells (Q1a (O1 ps (s.data.toList.take (i+1))) N).toArray 5)):=by
        show _=_;rw [D0 HG.o,hh.o,←V7f pre s[i] N yY,fW];rfl
       have hD:yK (((pre.length:Int)+1)=(((O1 ps (s.data.toList.take (i+1))).length:Nat):Int)):=by
        show _=_;rw [hh.o,aA];simp
       have Hf:=zW (HW.o.setCell (p:=⟨G,pre.length,none⟩) hJ (.int .u8 (s[i].toNat:Int)));generalize pre.length=pl at p0 f0 Hl Hm hL hD Hf ⊢;go_wp2_with fail
       rw [hD.o];go_roundg (s.size - (i+1))
       case measure=>omega
       case rel=>exact ⟨i+1,by go_num,rfl,hlt,hL.o,Hf.o,yY⟩
      ·obtain ⟨Hn,ho⟩:=hc r hr;rw [hB r hr] at hh hm;simp only [←aC] at hm;clear hz hB hc hr;have Hl:(0:Int)≤(pre.length:Int):=yY;have Hm:(pre.length:Int)≤(N:Int):=yY;have HM:pre.length < N:=yY;have hW:(s[i].toNat:Int) < 256:=yY;have HQ:¬ N < pre.length:=yY;have HO:¬ N=pre.length:=yY;have Hp:=Z1b pre r.data.toList N (by rw [←aC];exact hm);have Hu:=zW Hp;have hD:yK (((pre.length:Int)+(r.size:Int))=(((O1 ps (s.data.toList.take (i+1))).length:Nat):Int)):=by
        show _=_;rw [hh.o,aA,←aC];simp
       have hH:wr.drew.heap[G]? =some (.cells (Q1a pre N).toArray 5):=HG.o;have Hq:yK (∀ (j:Nat) (v:Value),(r.data.toList.map bv)[j]? =some v→wr.drew.cell? ((⟨g,0,none⟩:Addr).add j)=some v):=fun j v hj=>by
        have:=hgc j v hj;have e:(⟨g,0,none⟩:Addr).add j=⟨g,j,none⟩:=by cases j<;>simp [Addr.add]
        rw [e];exact this
       have Hb:=zW (aC r);have Ht:yK ((Q1a pre N).length=N):=X0w pre N yY;clear Hp;go_wp2_with fail
       go_region_law (refine step_copy_splice rfl (.tmp 105) (.tmp 111) 89 89 rfl 5 underlying89 U0f (some ⟨G,pre.length,none⟩) (some ⟨g,0,none⟩) (N - pre.length) (N - pre.length) r.size c2 (by simp [Act.eval]) (by simp [Act.eval]) G pre.length (Q1a pre N) 5 hH (r.data.toList.map bv) (by rw [bA,←Hb.o];exact (Nat.min_eq_left yY).symm) (fun _=>⟨rfl,_,rfl,Hq.o⟩) (by rw [bA,←Hb.o,Ht.o];exact hm) (fun v hv=>by obtain ⟨b,_,rfl⟩:=cF.1 hv;rfl) w.heap.size w (by exact HW.o.drew) hJ ?_;intro w4 hg4 hb4)
       all_goals (
        have hL:yK (w4.heap[G]? =some (.cells (Q1a (O1 ps (s.data.toList.take (i+1))) N).toArray 5)):=by
         show _=_;rw [hg4.out,Hu.o,hh.o]
        have Hv:=zW hb4;have Hs:yK (IntKind.i64.wrap ((pre.length:Int)+(r.size:Int))=(((O1 ps (s.data.toList.take (i+1))).length:Nat):Int)):=by
         show _=_;rw [cQ,←hD.o];omega
        clear hg4 hb4 hH hcl hgc;go_wp2_with fail
        first | rw [Hs.o] | rw [hD.o] | skip
        go_roundg (s.size - (i+1))
        case measure=>omega
        case rel=>exact ⟨i+1,by go_num,by first | rfl | (rw [←hD.o]),hlt,hL.o,Hv.o,yY⟩)
     ·obtain rfl:i=s.size:=yY;rw [show s.data.toList.take s.size=s.data.toList by rw [Hc.o];exact aW] at HG ⊢;have hS:(ofL (O1 ps s.data.toList)).size=N:=(by rw [aC,←hE.o];simp [ofL]);have Ho:Go.Lib.strCells (ofL (O1 ps s.data.toList))=Q1a (O1 ps s.data.toList) N:=by
       unfold Go.Lib.strCells Q1a;rw [hE.o,cZ];simp [ofL,bv]
      have hI:wr.ownsRow w.heap.size 5 1 (.slice (some ⟨G,0,none⟩) N N) N (Go.Lib.strCells (ofL (O1 ps s.data.toList))):=by
       rw [Ho];refine ⟨by rw [X0w _ _ (by rw [hE.o];exact yQ)];omega,.inr ⟨G,N,_,rfl,hJ,HG.o,yQ,by unfold maxLen;omega,?_,?_⟩⟩
       ·rw [List.size_toArray,X0w _ _ (by rw [hE.o];exact yQ),Nat.mul_one]
       ·rw [Nat.mul_one];exact bP (by rw [X0w _ _ (by rw [hE.o];exact yQ)];exact yQ)
      have Hy:=B5 (w:=wr) (ofL (O1 ps s.data.toList)) 89 9 underlying89 underlying5 underlying9 hI hS.symm yY;clear hI Ho hS;generalize ofL (O1 ps s.data.toList)=res at Hy hO;go_wp2_with fail
      first | go_ret | skip
      rw [hO.o];exact ⟨rfl,HW.o⟩
def zB:Array Value:=Array.replicate 257 (.slice none 0 0)
theorem U0i (w:World):(zeroValue 239).run prog w=.ok (.agg zB) w:=by
 kernel_rfl
theorem U0h:(prog.info? 239).map (·.size)=some 257:=by kernel_rfl
theorem V7g (A:Option Addr) (n c:Nat):prog.built 239 [(1,.slice A n c)]=some (zB.setIfInBounds 256 (.slice A n c)):=by
 kernel_rfl
theorem V6t {o:Oper} {a:Act} {w:World} (ho:o.op=.alloc 239):(execOp a.eval o).run prog w=.ok (.value (.pointer (some ⟨w.heap.size,0,none⟩))) (w.alloc (.cells zB 239)):=by
 have h:(Instr.alloc 239 true (.tuple #[])).run prog w=.ok (.pointer (some ⟨w.heap.size,0,none⟩)) (w.alloc (.cells zB 239)):=by
  unfold Instr.alloc;rw [dU,U0i,dN];simp [newVar,Value.cells,newRow]
 unfold execOp;simp only [ho,dU,h,dN,eW]
structure BsB (B:Nat) (w:World) (Q:Nat) (ps:Prs) (ks:List UInt8) (cs:List Value) (tv:Value):Prop where
 box:w.heap[Q]? =some (.cells cs.toArray 239)
 len:cs.length=257
 at_:∀ b:UInt8,∃ v,cs[b.toNat]? =some v∧(lk ps b=none→v=.slice none 0 0)∧(∀ r,lk ps b=some r→BytesAt w v r)
 tov:cs[256]? =some tv
 own:OwnE 9 Q9h 1 w B tv (ks.map fun b=>(⟨#[b]⟩:fY))
section
variable {B:Nat} {w w':World} {Q:Nat} {ps:Prs} {ks ks':List UInt8} {cs:List Value} {tv tv':Value}
theorem BsB.lt (h:BsB B w Q ps ks cs tv):Q < w.heap.size:=(aN.1 h.box).1
theorem BsB.bsIn (h:BsB B w Q ps ks cs tv):BsIn w Q ps ks cs tv:=⟨h.box,h.len,h.at_,h.tov,OwnE.rd (fun _=>rfl) h.own⟩
theorem BsB.below (h:BsB B w Q ps ks cs tv) (hb:Below w.heap.size w w'):BsB B w' Q ps ks cs tv:=by
 refine ⟨(hb.block Q h.lt).trans h.box,h.len,fun b=>?_,h.tov,(Mod.of_below hb).own h.own fun _ _ hf=>hf⟩;obtain ⟨v,h1,h2,h3⟩:=h.at_ b;exact ⟨v,h1,h2,fun r hr=>(h3 r hr).keep fun g cur fr hg=>hb.block g (aN.1 hg).1⟩
theorem BsB.push (h:BsB B w Q ps ks cs tv) (ho:OwnE 9 Q9h 1 w' B tv' (ks'.map fun b=>(⟨#[b]⟩:fY))) (hg:w.grownBy w' tv.ownBlock):
 BsB B (w'.setCell ⟨Q,256,none⟩ tv') Q ps ks' (cs.set 256 tv') tv':=by
 have hc:w'.heap[Q]? =some (.cells cs.toArray 239):=(hg.block Q h.lt (fun e=>Y1 h.own h.box yX Q e.symm rfl)).trans h.box;have hd:=h.len;have hs:=Mod.set w' Q 256 tv';refine ⟨by rw [D0 hc];simp,by simp [hd],fun b=>?_,by simp [hd],hs.own ho fun k hk e=>Y1 ho hc yX k hk e⟩;obtain ⟨v,h1,h2,h3⟩:=h.at_ b;have hb:=eG b;refine ⟨v,by rw [List.getElem?_set_ne yY];exact h1,h2,fun r hr=>(h3 r hr).keep fun g cur fr ha=>?_⟩;have hf:=(aN.1 ha).1;refine (aV _ _ _ _ (by intro e;rw [show g=Q from e,h.box] at ha;injection ha with ha;injection ha with _ e2 _;revert e2;decide)).trans (hg.block g hf fun e=>?_);obtain ⟨cur',he⟩:=P3 h.own e.symm;rw [he] at ha;injection ha with ha;injection ha with _ e2 _;revert e2
 decide
theorem BsB.put (h:BsB B w Q ps ks cs tv) (b:UInt8) (r:fY) (v:Value) (hv:BytesAt w v r):BsB B (w.setCell ⟨Q,b.toNat,none⟩ v) Q ((b,r)::ps) ks (cs.set b.toNat v) tv:=by
 have hc:=h.len;have hb:=eG b;have hs:=Mod.set w Q b.toNat v;have hk:∀ (g:Nat) (cur:Array Value) (fr:Nat×Nat),w.heap[g]? =some (.cells cur 5 fr)→(w.setCell ⟨Q,b.toNat,none⟩ v).heap[g]? =w.heap[g]? :=fun g cur fr ha=>
  aV _ _ _ _ (by intro e;rw [show g=Q from e,h.box] at ha;injection ha with ha;injection ha with _ e2 _;revert e2;decide)
 refine ⟨by rw [D0 h.box];simp,by simp [hc],fun d=>?_,by rw [List.getElem?_set_ne yY];exact h.tov,hs.own h.own fun k hk e=>Y1 h.own h.box yX k hk e⟩;by_cases hd:b=d
 ·subst hd;refine ⟨v,by rw [List.getElem?_set_self yY],fun hn=>?_,fun r' hr=>?_⟩
  ·rw [lk,aK rfl] at hn;cases hn
  ·rw [lk,aK rfl] at hr;injection hr with hr;subst hr;exact hv.keep hk
 ·obtain ⟨v',h1,h2,h3⟩:=h.at_ d;refine ⟨v',by rw [List.getElem?_set_ne (fun e=>hd (cN.1 e))];exact h1,fun hn=>?_,fun r' hr=>?_⟩
  ·rw [lk,aE hd] at hn;exact h2 hn
  ·rw [lk,aE hd] at hr;exact (h3 r' hr).keep hk
end
theorem U2p (A:Option Addr) (n c:Nat):(zB.setIfInBounds 256 (.slice A n c)).all (·.oneCell')=true:=by kernel_rfl
theorem Z7e (A:Option Addr) (n c:Nat):(zB.setIfInBounds 256 (.slice A n c)).size=257:=by
 rw [Array.size_setIfInBounds];unfold zB;rw [Array.size_replicate]
theorem X8h (w:World) (g:Nat) (cs:Array Value):Mod (fun k=>k=g) w (w.setRow g cs):=
 ⟨rfl,rfl,rfl,by simp [World.setRow],fun k _ hn=>setRow_other w g k cs hn⟩
theorem BsB.start {B:Nat} {w:World} {A:Option Addr} {c:Nat} (ho:OwnE 9 Q9h 1 w B (.slice A 0 c) ([]:List fY)):
 BsB B ((w.alloc (.cells zB 239)).setRow w.heap.size (zB.setIfInBounds 256 (.slice A 0 c))) w.heap.size [] [] (zB.setIfInBounds 256 (.slice A 0 c)).toList (.slice A 0 c):=by
 have hl:zB.size=257:=(by unfold zB;rw [Array.size_replicate]);have hh:=aT w (.cells zB 239);refine ⟨?_,by rw [Array.length_toList,Array.size_setIfInBounds,hl],fun b=>?_,?_,(X8h _ _ _).own (aD ho _) fun k hk e=>?_⟩
 ·rw [Array.toArray_toList];exact setRow_heap _ _ _ _ _ _ hh
 ·have hb:=eG b;refine ⟨.slice none 0 0,?_,fun _=>rfl,fun r hr=>by cases hr⟩;rw [fU,Array.getElem?_setIfInBounds_ne yY];unfold zB;rw [Array.getElem?_replicate,aK yY]
 ·rw [fU,Array.getElem?_setIfInBounds_self_of_lt (by rw [hl];decide)]
 ·have:=(ho.lt k hk).2;omega
theorem Z1d (w:World) (r:fY) (h:r.size≤grownCap w r.size 0 5):BytesAt (w.drew.alloc (.cells (bytesRow r (grownCap w r.size 0 5)) 5 ((bytesRow r (grownCap w r.size 0 5)).size,(bytesRow r (grownCap w r.size 0 5)).size+1))) (.slice (some ⟨w.heap.size,0,none⟩) r.size (grownCap w r.size 0 5)) r:=by
 refine ⟨w.heap.size,_,_,_,rfl,h,aT w.drew _,fun j u hj=>?_⟩;unfold bytesRow;have hl:j < (Go.Lib.strCells r).length:=(aM.1 hj).1;have ha:(Go.Lib.strCells r).length=r.data.size:=(by unfold Go.Lib.strCells;simp);rw [Array.getElem?_append_left (by rw [Array.size_map];omega),Array.getElem?_map];unfold Go.Lib.strCells at hj;rw [cE] at hj;rw [←fU];exact hj
def L7 (ps:Prs):List fY:=ps.flatMap fun p=>[(⟨#[p.1]⟩:fY),p.2]
theorem Q2b:∀ ps:Prs,(L7 ps).length=2 * ps.length
 | []=>rfl
 | p::ps=>by
   rw [show L7 (p::ps)=[(⟨#[p.1]⟩:fY),p.2]++L7 ps from rfl,aA,Q2b ps,aG,aG,aG];simp;omega
theorem Y7i:∀ (ps:Prs) (j:Nat) (h:j < ps.length),(L7 ps)[2 * j]? =some (⟨#[ps[j].1]⟩:fY)∧(L7 ps)[2 * j+1]? =some ps[j].2
 | p::ps,0,_=>⟨rfl,rfl⟩
 | p::ps,j+1,h=>by
   obtain ⟨h1,h2⟩:=Y7i ps j (by simpa using h);rw [show L7 (p::ps)=(⟨#[p.1]⟩:fY)::p.2::L7 ps from rfl,show 2 * (j+1)=2 * j+1+1 by omega];exact ⟨by rw [bU,bU];exact h1,by rw [bU,bU];exact h2⟩
theorem X9u:(prog.info? 9).map (fun i=>(i.zero,i.size,i.bytes))=some (some (.string ⟨#[]⟩),1,16):=by kernel_rfl
theorem U1w (w:World):(binOp .eql 89 (.slice none 0 0) (.slice none 0 0)).run prog w=.ok (.bool true) w:=by
 kernel_rfl
theorem T7 (w:World) (c:UInt8):(convert 89 9 (.slice (some ⟨w.heap.size,0,none⟩) 1 1)).run prog (w.alloc (.cells #[.int .u8 (c.toNat:Int)] 5))=.ok (.string (⟨#[c]⟩:fY)) (w.alloc (.cells #[.int .u8 (c.toNat:Int)] 5)):=
 B5 (base:=w.heap.size) (⟨#[c]⟩:fY) 89 9 underlying89 underlying5 underlying9 ⟨rfl,.inr ⟨w.heap.size,1,_,rfl,yQ,aT w _,yQ,by unfold maxLen;decide,rfl,rfl⟩⟩ rfl yX
theorem X4o:∀ kp:List UInt8,((kp.map fun b=>(⟨#[b]⟩:fY)).flatMap Q9h)=kp.map fun b=>Value.string (⟨#[b]⟩:fY)
 | []=>rfl
 | x::l=>by rw [cA,dM,X4o l];rfl
theorem Y4r {w:World} {B:Nat} {v:Value} {kp:List UInt8} {c:UInt8} (h:w.ownsRow B 9 1 v (kp.length+1) ((kp.map fun b=>Value.string (⟨#[b]⟩:fY))++[.string (⟨#[c]⟩:fY)])):OwnE 9 Q9h 1 w B v ((kp++[c]).map fun b=>(⟨#[b]⟩:fY)):=by
 unfold OwnE;rw [X4o,bA,aA,cP];exact h
theorem BsB.grQ {B:Nat} {w w':World} {Q:Nat} {ps:Prs} {ks:List UInt8} {cs:List Value} {tv:Value} (h:BsB B w Q ps ks cs tv) (hg:w.grownBy w' tv.ownBlock):w'.heap[Q]? =some (.cells cs.toArray 239):=(hg.block Q h.lt (fun e=>Y1 h.own h.box yX Q e.symm rfl)).trans h.box
def Y5u (ps:Prs) (w:World) (e:Ending) (w':World):Prop:=
 ∃ Q cs tv,e=.returned (.iface 240 (.pointer (some ⟨Q,0,none⟩)))∧BsB w.heap.size w' Q ps (ps.map (·.1)).reverse cs tv∧Below w.heap.size w w'
theorem Z7i (R:Nat) (ps:Prs) (d0 d1 d2 ov:Value) (w:World) (hbox:w.heap[R]? =some (.cells #[d0,d1,d2,.nilIface,ov] 161)) (hl:RdE Q9h 1 w ov (L7 ps)) (h2:2≤ps.length) (h10:ps.length≤10) (hp:Q6f ps):
 Calls prog 119 #[.pointer (some ⟨R,0,none⟩)] w (Y5u ps w):=by
 obtain ⟨RR,hW⟩:∃ RR:Ending→World→Prop,yK (RR=Y5u ps w):=⟨_,rfl⟩;rw [←hW.o];obtain ⟨A,c,rfl,hn,_⟩:=hl.shape;have q4:w.cell? ⟨R,4,none⟩=some (.slice A (2 * ps.length) c):=by
  rw [←Q2b];exact Z9 (l:=[d0,d1,d2,.nilIface,.slice A (L7 ps).length c]) hbox 4 rfl
 rw [Q2b] at hn hl;obtain ⟨b,o,rfl,Hb,ha⟩:=hl.cells (by rw [Q2b];omega);have hT:yK (∀ (j:Nat) (p:UInt8×fY),ps[j]? =some p→w.cell? ⟨b,o+2 * j,none⟩=some (.string (⟨#[p.1]⟩:fY))∧w.cell? ⟨b,o+(2 * j+1),none⟩=some (.string p.2)):=fun j p h=>by
  obtain ⟨hs,rfl⟩:=aM.1 h;obtain ⟨h1,h3⟩:=Y7i ps j hs;have a1:=ha _ _ 0 _ h1 rfl;have a2:=ha _ _ 0 _ h3 rfl;rw [Nat.mul_one,cV] at a1 a2;exact ⟨a1,a2⟩
 have HP:=zW hp;clear hl ha hbox;have Hx:((2 * ps.length:Nat):Int)==2→False:=fun h=>by rw [cM] at h;omega
 have Hd:(((2 * ps.length:Nat):Int)==2)=false:=(by rw [aI];omega);have He:¬ ((2 * ps.length:Nat):Int)=2:=yY;clear Hx;generalize hnn:ps.length=n at *;have hx:=zW hnn;clear hnn;obtain ⟨n2,hc⟩:∃ n2,yK (n2=2 * n):=⟨_,rfl⟩;rw [←hc.o] at hn q4 Hd He;have Hy:n2≤20:=(by have:=hc.o;omega);have Hz:4≤n2:=(by have:=hc.o;omega);obtain ⟨wo,hY⟩:∃ wo,yK (wo=w):=⟨w,rfl⟩;go_enter func119,ntmps119
 go_wp2_with fail
 go_loopg [4,5] n (fun gk av iv wr=>∃ (j:Nat) (bb:Bool),av=.bool bb∧iv=.int .i64 ((2 * j:Nat):Int)∧j≤n∧yK (0 < j→bb=false)∧yK (wr=wo)∧n - j≤gk)
 case atStart=>exact ⟨0,true,rfl,rfl,aO _,(fun h=>absurd h yX),hY.o.symm,yQ⟩
 case round=>
  obtain ⟨j,bb,rfl,rfl,hj,hS,HW,hgk⟩:=hrel;have HC:w=wr:=(HW.o.trans hY.o).symm;subst HC;by_cases hs:j < n
  ·obtain ⟨p,hM⟩:∃ p,ps[j]? =some p:=(by rw [←hx.o] at hs;exact ⟨_,aF hs⟩);obtain ⟨q0,q1⟩:=hT.o j p hM;have hN:=(HP.o.1 p (cK hM)).1;clear hM;obtain ⟨pc,pr⟩:=p;simp only at q0 q1 hN;obtain ⟨i2,hb⟩:∃ i2,yK (i2=2 * j):=⟨_,rfl⟩;have hi:(i2:Int) < (n2:Int):=(by have:=hb.o;have:=hc.o;omega);have Ht:(0:Int)≤(i2:Int):=yY;have Hu:(i2:Int)+1 < (n2:Int):=(by have:=hb.o;have:=hc.o;omega);have HJ:((pr.size:Int) != 1)=true:=(by rw [dZ];omega);have HA:¬ (pr.size:Int)=1:=yY;have hE:yK ((i2:Int)+2=((2 * (j+1):Nat):Int)):=(by show _=_;have:=hb.o;omega);rw [←hb.o] at q0 q1 ⊢;go_wp2_with fail
   rw [hE.o];go_roundg (n - (j+1))
   case measure=>omega
   case rel=>exact ⟨j+1,false,rfl,rfl,hs,fun _=>rfl,HW.o,yY⟩
  ·obtain rfl:j=n:=yY;have Hp:=hS.o yY;subst Hp;rw [←hc.o];obtain ⟨ti,Hh,Hj,Hi,Hg⟩:=fF X9u;have hO:(n2:Int) / 2=(j:Int):=(by have:=hc.o;omega);have Hf:(n2:Int).tdiv 2=(j:Int):=(by rw [Int.tdiv_eq_ediv_of_nonneg yY];exact hO);clear q4 Hd He;go_wp2_with (at_make;go_loud (refine wpList_make_own _ rfl _ _ 79 rfl w.heap.size 9 ti _ 1 underlying79 Hh Hj Hi _ _ _ j rfl rfl (by first | rfl | exact hO | exact Hf) (by rw [Hg];omega) (by unfold maxLen;omega) yQ ?_);intro w5 he hr;have hV:=zW he;have hD:=zW hr;clear he hr;go_loud (refine wpList_buildTo rfl 239 _ rfl (some 95) rfl (zB.setIfInBounds 256 (.slice (some ⟨w.heap.size,0,none⟩) 0 j)) (by simp only [List.map_toArray,cA,eM];exact V7g (some ⟨w.heap.size,0,none⟩) 0 j) ?_);refine Go.Great.wpList_allocTo rfl (some 11) rfl (.pointer (some ⟨w5.heap.size,0,none⟩)) (.cells zB 239) (V6t rfl) ?_;refine wpList_store_rowTo rfl 239 _ _ rfl rfl w5.heap.size (zB.setIfInBounds 256 (.slice (some ⟨w.heap.size,0,none⟩) 0 j)) rfl rfl 239 zB (aT w5 _) (by rw [Z7e];exact U0h) (by rw [Z7e];unfold zB;rw [Array.size_replicate]) (U2p _ _ _) ?_)
   have hy:=zW (BsB.start hV.o);have hX:=zW ((aB w.heap.size w).grown hD.o yQ (fun k hk=>by cases hk));have hv:=hD.o.size;have hA:=zW ((hX.o.alloc hv (.cells zB 239)).trans ((X8h (w5.alloc (.cells zB 239)) w5.heap.size (zB.setIfInBounds 256 (.slice (some ⟨w.heap.size,0,none⟩) 0 j))).below (fun k hk=>by rw [hk];exact hv) yV));obtain ⟨Q,hQ⟩:∃ Q,yK (Q=w5.heap.size):=⟨_,rfl⟩;rw [←hQ.o] at hy hA hv ⊢;generalize (w5.alloc (.cells zB 239)).setRow Q (zB.setIfInBounds 256 (.slice (some ⟨w.heap.size,0,none⟩) 0 j))=w6 at hy hA ⊢;rw [show (n2:Int) - 2=2 * (j:Int) - 2 by have:=hc.o;omega];clear hV hD hX hO Hf Hh Hj Hi Hg hQ hS HW hgk hj;go_loopg [12] (j+1) (fun gk iv wz=>∃ (q:Nat) (cs:List Value) (tv:Value),iv=.int .i64 (2 * (q:Int) - 2)∧q≤j∧yK (BsB w.heap.size wz Q (ps.drop q) (((ps.drop q).map (·.1)).reverse) cs tv)∧yK (Below w.heap.size w wz)∧q≤gk)
   case atStart=>
    have Hm:yK (BsB w.heap.size w6 Q (ps.drop j) (((ps.drop j).map (·.1)).reverse) (zB.setIfInBounds 256 (.slice (some ⟨w.heap.size,0,none⟩) 0 j)).toList (.slice (some ⟨w.heap.size,0,none⟩) 0 j)):=by
     show BsB _ _ _ _ _ _ _;rw [dI (by rw [hx.o];exact yQ)];exact hy.o
    exact ⟨j,_,_,rfl,yQ,Hm.o,hA.o,Nat.le_succ _⟩
   case round=>
    clear hy hA;obtain ⟨q,cs,tv,rfl,hq,HS,HW,hgk⟩:=hrel;cases q with
    | zero=>
      rw [cO] at HS;have Hw:(2 * ((0:Nat):Int) - 2)=-2:=yX;rw [Hw];go_wp2_with fail
      first | go_ret | skip
      rw [hW.o];exact ⟨Q,cs,tv,rfl,HS.o,HW.o⟩
    | succ q=>
      obtain ⟨I2,hb⟩:∃ I2,yK (I2=2 * q):=⟨_,rfl⟩;rw [show 2 * ((q+1:Nat):Int) - 2=((2 * q:Nat):Int) by omega,←hb.o];have hP:q < ps.length:=(by rw [hx.o];omega);obtain ⟨p,ht⟩:∃ p,ps[q]? =some p:=⟨_,aF hP⟩;have hI:ps.drop q=p::ps.drop (q+1):=by
       rw [aQ hP];congr 1;rw [aF hP] at ht;exact eA ht
      obtain ⟨p0,p1⟩:=hT.o q p ht;have hJ:=HP.o.2;have hL:lk (ps.drop (q+1)) p.1=none:=by
       refine Z5t _ _ fun hm=>?_;rw [←bR q ps,cP,hI,cA] at hJ;exact (List.nodup_cons.1 (List.nodup_append.1 hJ).2.1).1 hm
      have hN:=HP.o.1 p (cK ht);have hU:=zW hI;clear hI hJ ht;obtain ⟨pc,pr⟩:=p;simp only at p0 p1 hL hN;have q0:=(HW.o.cell (p:=⟨b,o+2 * q,none⟩) Hb).trans p0;have q1:=(HW.o.cell (p:=⟨b,o+(2 * q+1),none⟩) Hb).trans p1;rw [←hb.o] at q0 q1;have hi:(I2:Int) < (n2:Int):=(by have:=hb.o;have:=hc.o;omega);have Ht:(0:Int)≤(I2:Int):=yY;have Hu:(I2:Int)+1 < (n2:Int):=(by have:=hb.o;have:=hc.o;omega);have HG:∀ (z:UInt8) h,((⟨#[z]⟩:fY)[0]'h).toNat=z.toNat:=fun _ _=>rfl;have hZ:=eG pc;have ha:wr.cell? ⟨Q,pc.toNat,none⟩=some (.slice none 0 0):=by
       rcases HS.o.bsIn.cell pc with ⟨_,h⟩ | ⟨r,_,_,h,_⟩
       ·exact h
       ·rw [hL] at h;cases h
      obtain ⟨kp,hF⟩:∃ kp,yK (kp=((ps.drop (q+1)).map (·.1)).reverse):=⟨_,rfl⟩;rw [←hF.o] at HS;have HI:kp.length≤10:=by
       rw [hF.o,cT,bA,bM,hx.o];omega
      obtain ⟨A',c',Hk⟩:=Q0 HS.o.own;rw [bA] at Hk;subst Hk;have HB:=Z9 HS.o.box 256 HS.o.tov;have hG:yK (wr.ownsRow w.heap.size 9 1 (.slice A' kp.length c') kp.length (kp.map fun b=>Value.string (⟨#[b]⟩:fY))):=by
       have h:=HS.o.own;unfold OwnE at h;rw [bA] at h;rw [X4o] at h;exact h
      clear p0 p1;have hK:=U1w wr;go_upto_region 33 with fail
      have Hq:=T7 wr pc;have hz:=zW ((HS.o.below ((aB _ wr).alloc yQ (.cells #[.int .u8 (pc.toNat:Int)] 5))).below ((aB _ _).alloc yQ (.cells #[.string (⟨#[pc]⟩:fY)] 9)));have HE:=HW.o.size;go_upto_region 34 with (at_builtin;go_loud (refine Z7 rfl (.tmp 119) (.tmp 123) 79 9 rfl underlying79 _ 1 16 X9u rfl yX w.heap.size _ kp.length _ rfl (by exact (hG.o.alloc _).alloc _) ⟨wr.heap.size+1,0,none⟩ 1 [.string (⟨#[pc]⟩:fY)] rfl rfl (by exact T6 _ _ yW _ _) (by intro u hu;rw [aJ.1 hu];rfl) yY yX yV ?_);intro g8 cap8 w8 hf HH hh hd;have hw:=zW (hz.o.push (Y4r hf) hd);have y0:=hz.o.grQ hd;have z1:=Z9 y0 256 hz.o.tov;have y1:=Y6 y0 256;have hg:=zW (eE (p:=⟨Q,256,none⟩) (Below.grown ((HW.o.alloc HE (.cells #[.int .u8 (pc.toNat:Int)] 5)).alloc yV (.cells #[.string (⟨#[pc]⟩:fY)] 9)) hd yV (fun k hk=>(hG.o.lt k hk).1)) hv (.slice (some ⟨g8,0,none⟩) (kp.length+1) cap8));clear y0 hh hf hd)
      obtain ⟨tv8,hR⟩:∃ tv8,yK (tv8=Value.slice (some ⟨g8,0,none⟩) (kp.length+1) cap8):=⟨_,rfl⟩;rw [←hR.o] at hw hg ⊢;clear y1 z1 hz hG HS ha HB q0 q1 Hq hK HW;generalize w8.setCell ⟨Q,256,none⟩ tv8=w9 at hw hg ⊢;have ho:=run_bytes_of_string (P:=prog) w9 9 89 5 pr underlying9 underlying89 underlying5;have hC:=zW (Z1d w9 pr (grownCap_ge w9 pr.size 0 5));have HD:=hg.o.size;generalize grownCap w9 pr.size 0 5=gc at ho hC;obtain ⟨Ob,Ho⟩:∃ Ob,yK (Ob=Obj.cells (bytesRow pr gc) 5 ((bytesRow pr gc).size,(bytesRow pr gc).size+1)):=⟨_,rfl⟩;rw [←Ho.o] at ho hC;have Ha:=((aB w9.heap.size w9).drew).alloc (by exact yQ) Ob;have hB:=zW (hw.o.below Ha);have Hn:=zW ((hg.o.drew).alloc (by exact HD) Ob);have ha:(w9.drew.alloc Ob).cell? ⟨Q,pc.toNat,none⟩=some (.slice none 0 0):=by
       rcases hB.o.bsIn.cell pc with ⟨_,h⟩ | ⟨r,_,_,h,_⟩
       ·exact h
       ·rw [hL] at h;cases h
      have Hr:=Y6 hB.o.box pc.toNat;have HK:w9.drew.heap.size=w9.heap.size:=rfl;clear Ha hw hg;have hH:(w9.alloc Ob).cell? ⟨Q,pc.toNat,none⟩=some (.slice none 0 0):=ha;have Hs:(w9.alloc Ob).frozen? ⟨Q,pc.toNat,none⟩=false:=Hr;have Hc:(I2:Int) - 2=2 * (q:Int) - 2:=(by have:=hb.o;omega);have Hl:=zW Hc;clear Hc;go_wp2_with fail
      rw [Hl.o];go_roundg q
      case measure=>omega
      case rel=>
       have HF:=hB.o.put pc pr _ hC.o;rw [←hU.o] at HF;have Hv:kp++[pc]=((ps.drop q).map (·.1)).reverse:=by
        rw [hU.o,cA,fA,←hF.o]
       rw [Hv] at HF;exact ⟨q,_,_,rfl,yY,HF,Hn.o.setCell (p:=⟨Q,pc.toNat,none⟩) hv _,yQ⟩
theorem X9a (s t:List UInt8):Lib.hasPrefix s t=(s.take t.length==t):=by
 rw [Bool.eq_iff_iff,cM];unfold Lib.hasPrefix;rw [eI];constructor
 ·rintro ⟨r,rfl⟩;rw [eH]
 ·intro h;exact ⟨s.drop t.length,by conv=>rhs;rw [←bR t.length s,h]⟩
theorem Y7f (s:fY) (n:Nat):(s.extract 0 n).toList=s.data.toList.take n:=by
 rw [Y7,cX,dG,cU,cO,dH]
theorem G4 (s t:fY) (b:Bool) (h:Lib.hasPrefix s.data.toList t.data.toList=b) (w:World) (ht:t.size≤1000000):Calls prog 136 #[.string s,.string t] w fun e w'=>e=.returned (.bool b)∧w=w':=by
 rw [X9a,←aC,←Y7f,←Y7] at h;by_cases hl:t.size≤s.size
 ·have hi:(t.size:Int)≤(s.size:Int):=yY;go_enter func136,ntmps136
  go_wp2_with fail
  go_ret
  exact ⟨by rw [←h];rfl,rfl⟩
 ·have hi:¬ (t.size:Int)≤(s.size:Int):=yY;have hb:b=false:=by
   rw [←h,aI];intro e;have:=congrArg List.length e;rw [Y7f,Y7,bG,←aC,←aC] at this;omega
  subst hb;clear h;go_enter func136,ntmps136
  go_wp2_with fail
  go_ret
  exact ⟨rfl,rfl⟩
theorem Q4w {fn:Func} {p:Tmp} {ty:TypeId} (h:fn.results=#[.cell p ty]) (tmps:Array Value) (P:Program) (w:World):
 (results fn tmps).run P w=((asAddr (tmps.getD p undef)).run P w).andThen fun a w₁=>(loadVar ty a).run P w₁:=by
 simp only [results,h];simp [dU,Result.andThen]
theorem V9k {fn:Func} {p:Tmp} (h:fn.results=#[.cell p 31]) (tmps:Array Value) (w:World) (g:Nat) (k d:Int) (t:fY) (hp:tmps.getD p undef=.pointer (some ⟨g,0,none⟩))
 (c0:w.cell? ⟨g,0,none⟩=some (.int .i64 k)) (c1:w.cell? ⟨g,1,none⟩=some (.string t)) (c2:w.cell? ⟨g,2,none⟩=some (.int .i64 d)):
 (results fn tmps).run prog w=.ok (.agg #[.int .i64 k,.string t,.int .i64 d]) w:=by
 rw [Q4w h,hp];go_simp
theorem K9 {fn:Func} {p u:Tmp} (h:fn.results=#[.cell p 31,.tmp u]) (tmps:Array Value) (w:World) (g:Nat) (k d:Int) (t:fY) (x:Value) (hp:tmps.getD p undef=.pointer (some ⟨g,0,none⟩)) (hu:tmps.getD u undef=x)
 (c0:w.cell? ⟨g,0,none⟩=some (.int .i64 k)) (c1:w.cell? ⟨g,1,none⟩=some (.string t)) (c2:w.cell? ⟨g,2,none⟩=some (.int .i64 d)):
 (results fn tmps).run prog w=.ok (.tuple #[.agg #[.int .i64 k,.string t,.int .i64 d],x]) w:=by
 rw [results_cell_tmp h,hp,hu];go_simp
def El7 (k:Int) (t:fY) (n:Nat) (w:World) (e:Ending) (w':World):Prop:=
 e=.returned (.tuple #[.agg #[.int .i64 k,.string t,.int .i64 0],.int .i64 n])∧Below w.heap.size w w'
theorem Q2n (c:UInt8) (w:World):Calls prog 137 #[.int .u8 (c.toNat:Int)] w fun e w'=>e=.returned (.agg #[.int .i64 1,.string (⟨#[c]⟩:fY),.int .i64 0])∧Below w.heap.size w w':=by
 have HB:=zW (aB w.heap.size w);have ha:=T7 (w.alloc (.cells #[.int .i64 0,.string ⟨#[]⟩,.int .i64 0] 31)) c;rw [show (w.alloc (.cells #[.int .i64 0,.string ⟨#[]⟩,.int .i64 0] 31)).heap.size=w.heap.size+1 by simp] at ha;go_enter func137,ntmps137
 go_wp2_with fail
 refine bO (V9k rfl _ _ w.heap.size 1 0 (⟨#[c]⟩:fY) rfl yU yU yU) rfl ?_;refine ⟨rfl,?_⟩
 (repeat' (first | with_reducible exact aB _ _ | refine Q1 ?_ _ | refine eC ?_ | refine eE ?_ yW _ | refine fD ?_ yW _))
theorem X4n (s nm:fY) (r:List UInt8) (w:World) (hcr:s.data.toList=123::nm.data.toList++125::r) (hn:U3 nm.data.toList=true) (hsz:s.size≤1000000):
 Calls prog 138 #[.string s] w (El7 5 nm (nm.size+2) w):=by
 obtain ⟨R,he⟩:∃ R:Ending→World→Prop,yK (R=El7 5 nm (nm.size+2) w):=⟨_,rfl⟩;rw [←he.o];have hj:s.size=nm.size+2+r.length:=(by rw [aC,hcr,aC nm];simp;omega);have hq:nm.size≤24:=by
  have:nm.data.toList.length≤24:=by
   cases hl:nm.data.toList with
   | nil=>simp
   | cons c r=>
     rw [hl] at hn;unfold U3 at hn;simp only [dC,cG] at hn;simp;omega
  rw [aC];exact this
 have hd:=zW (M5 s [123] (nm.data.toList++125::r) hcr);have hg:=zW (I4 nm.data.toList hn 125 yW);have hh:s.extract 1 (nm.size+1)=nm:=E7 _ _ _ _ (by rw [hcr,aC nm];simp);have CN:=zW (fun w=>Q3q nm w (by unfold maxLen;omega));rw [hn] at CN;have HB:=zW (aB w.heap.size w);have ht:nm.size+2≤s.size:=yY;have ho:=zW (fun (W:World) (h:w.alloc (.cells #[.int .i64 0,.string ⟨#[]⟩,.int .i64 0] 31)=W)=>h);clear hcr hn hj;go_enter func138,ntmps138
 go_wp2_with fail
 obtain ⟨wo,ha⟩:∃ wo,yK (wo=w.alloc (.cells #[.int .i64 0,.string ⟨#[]⟩,.int .i64 0] 31)):=⟨_,rfl⟩;go_loopg [4] (nm.size+2) (fun gk iv wr=>∃ k:Nat,iv=.int .i64 ((k+1:Nat):Int)∧k≤nm.size∧yK (wr=wo)∧nm.size+1 - k≤gk)
 case atStart=>exact ⟨0,rfl,aO _,ha.o.symm,Nat.le_succ _⟩
 case round=>
  obtain ⟨k,rfl,hk,HW,hgk⟩:=hrel;obtain ⟨p,hp⟩:∃ p,p=k+1:=⟨_,rfl⟩;rw [←hp];have hf:p < s.size:=yY;have hs:(p:Int) < (s.size:Int):=yY;have hi:(p:Int)≤25:=yY;by_cases hlt:k < nm.size
  ·have hc:=(hd.o k p (by rw [aA,←aC];omega) (by rw [hp];simp;omega) hf).trans (cI (by rw [←aC];exact hlt));have hb:=hg.o _ (aL (by rw [←aC];exact hlt));rw [←hc] at hb;have t1:((s[p].toNat:Int)==125)=false:=Y2 s[p] 125 hb;have HS:yK ((p:Int)+1=((k+1+1:Nat):Int)):=(by show _=_;omega);clear hc hb hp;go_wp2_with fail
   rw [HS.o];go_roundg (nm.size - k)
   case measure=>omega
   case rel=>exact ⟨k+1,rfl,hlt,HW.o,yY⟩
  ·obtain rfl:k=nm.size:=yY;have hc:s[p]=125:=(hd.o nm.size p (by rw [aA,←aC];simp) (by rw [hp];show nm.size+1=1+nm.size;omega) hf).trans (by rw [bK (by rw [←aC];exact yQ)];simp only [show nm.size - nm.data.toList.length=0 by rw [←aC];omega];rfl);have t1:((s[p].toNat:Int)==125)=true:=(by rw [hc];rfl);have HS:yK ((p:Int)+1=((nm.size+2:Nat):Int)):=(by show _=_;omega);rw [←hp] at hh;have hm:wr=w.alloc (.cells #[.int .i64 0,.string ⟨#[]⟩,.int .i64 0] 31):=HW.o.trans ha.o;subst hm;have hr:1≤p:=yY;clear hc hp HW ha;go_wp2_with (go_at_call 139;refine (CN.o _).mono ?_;rintro e w' ⟨rfl,rfl⟩)
   refine bO (K9 rfl _ _ w.heap.size 5 0 nm _ rfl rfl yU yU yU) rfl ?_;rw [he.o];refine ⟨?_,?_⟩
   ·rw [←HS.o];rfl
   ·(repeat' (first | with_reducible exact aB _ _ | refine Q1 ?_ _ | refine eC ?_ | refine eE ?_ yW _ | refine fD ?_ yW _))
theorem V3i (sub:List UInt8):∀ (l:List UInt8) (n:Nat),Lib.index l sub=(n:Int)→Lib.hasPrefix (l.drop n) sub=true∧∀ k,k < n→Lib.hasPrefix (l.drop k) sub=false
 | [],n,h=>by
   rw [Lib.index] at h;split at h
   ·rename_i h1;obtain rfl:n=0:=yY;refine ⟨?_,fun k hk=>yY⟩;cases sub with
    | nil=>rfl
    | cons a b=>simp at h1
   ·omega
 | c::l,n,h=>by
   rw [Lib.index] at h;split at h
   ·rename_i h1;obtain rfl:n=0:=yY;exact ⟨h1,fun k hk=>yY⟩
   ·rename_i h1;split at h
    ·omega
    ·rename_i h2;have h3:Lib.index l sub≠-1:=(by simpa using h2);have h4:=Y7r l sub;obtain ⟨m,rfl⟩:∃ m,n=m+1:=⟨n - 1,yY⟩;obtain ⟨g1,g2⟩:=V3i sub l m yY;refine ⟨g1,fun k hk=>?_⟩;cases k with
     | zero=>
       show Lib.hasPrefix (c::l) sub=false;unfold Lib.hasPrefix;exact Bool.eq_false_iff.2 h1
     | succ k=>exact g2 k yY
theorem Z5g (s t:fY) (p:Nat):((s.extract p (p+t.size)).toList==t.toList)=Lib.hasPrefix (s.data.toList.drop p) t.data.toList:=by
 rw [X9a,Y7,Y7,cX,dG,cU,aC t,show p+t.data.toList.length - p=t.data.toList.length by omega]
theorem Q4f (s t:fY) (p n:Nat) (w:World) (h:Lib.index (s.data.toList.drop p) t.data.toList=(n:Int)) (ht:0 < t.size) (hsz:s.size≤1000000) (hts:t.size≤1000000):
 Calls prog 174 #[.string s,.string t,.int .i64 p] w fun e w'=>e=.returned (.int .i64 (p+n:Nat))∧w=w':=by
 obtain ⟨R,ha⟩:∃ R:Ending→World→Prop,yK (R=fun e w'=>e=.returned (.int .i64 (p+n:Nat))∧w=w'):=⟨_,rfl⟩;rw [←ha.o];obtain ⟨h1,h2⟩:=V3i _ _ _ h;have hd:p+n+t.size≤s.size:=by
  have h3:=h1;rw [X9a,cM,fC] at h3;have:=congrArg List.length h3;rw [bG,bM,←aC,←aC] at this;omega
 have HE:=zW (fun k (hk:k < n)=>show ((s.extract (p+k) (p+k+t.size)).toList==t.toList)=false by rw [Z5g,←fC];exact h2 k hk);have HF:=zW (show ((s.extract (p+n) (p+n+t.size)).toList==t.toList)=true by rw [Z5g,←fC];exact h1);obtain ⟨wo,hb⟩:∃ wo,yK (wo=w):=⟨w,rfl⟩;clear h h1 h2;go_enter func174,ntmps174
 go_wp2_with fail
 go_loopg [7] (n+1) (fun gk iv wr=>∃ q k:Nat,iv=.int .i64 q∧yK (q=p+k)∧k≤n∧yK (wr=wo)∧n+1 - k≤gk)
 case atStart=>exact ⟨p,0,rfl,rfl,aO _,hb.o.symm,yQ⟩
 case round=>
  obtain ⟨q,k,rfl,HQ,hk,HW,hgk⟩:=hrel;have hq:q+t.size≤s.size:=(by have:=HQ.o;omega);have he:(q:Int)+(t.size:Int)≤(s.size:Int):=yY;by_cases hlt:k < n
  ·have t1:((s.extract q (q+t.size)).toList==t.toList)=false:=(by rw [HQ.o];exact HE.o k hlt);have hc:yK (q+1=p+(k+1)):=(by show _=_;have:=HQ.o;omega);go_wp2_with fail
   rw [show (q:Int)+1=((q+1:Nat):Int) from rfl];go_roundg (n+1 - (k+1))
   case measure=>omega
   case rel=>exact ⟨q+1,k+1,rfl,hc.o,hlt,HW.o,yQ⟩
  ·obtain rfl:k=n:=yY;have t1:((s.extract q (q+t.size)).toList==t.toList)=true:=(by rw [HQ.o];exact HF.o);go_wp2_with fail
   first | go_ret | skip
   rw [ha.o];refine ⟨?_,(HW.o.trans hb.o).symm⟩;show Ending.returned (.int .i64 (q:Nat))=_;rw [HQ.o]
theorem T3 {w w1:World} (hb:Below (w.alloc (.cells #[.int .i64 0,.string ⟨#[]⟩,.int .i64 0] 31)).heap.size (w.alloc (.cells #[.int .i64 0,.string ⟨#[]⟩,.int .i64 0] 31)) w1):
 w1.cell? ⟨w.heap.size,0,none⟩=some (.int .i64 0)∧w1.cell? ⟨w.heap.size,1,none⟩=some (.string ⟨#[]⟩)∧w1.cell? ⟨w.heap.size,2,none⟩=some (.int .i64 0)∧w1.frozen? ⟨w.heap.size,0,none⟩=false∧w1.frozen? ⟨w.heap.size,1,none⟩=false∧w1.frozen? ⟨w.heap.size,2,none⟩=false:=
 bx3 ((hb.block w.heap.size yW).trans (aT w _))
theorem V5 {w w1:World} (h:Below w.heap.size w w1) (a b c:Value):Below w.heap.size w (((w1.setCell ⟨w.heap.size,0,none⟩ a).setCell ⟨w.heap.size,1,none⟩ b).setCell ⟨w.heap.size,2,none⟩ c):=
 ((h.setCell (p:=⟨w.heap.size,0,none⟩) yQ a).setCell (p:=⟨w.heap.size,1,none⟩) yQ b).setCell (p:=⟨w.heap.size,2,none⟩) yQ c
theorem Y2y (c:UInt8) (n:Int) (h:n=(c.toNat:Int)) (w:World):Calls prog 137 #[.int .u8 n] w fun e w'=>e=.returned (.agg #[.int .i64 1,.string (⟨#[c]⟩:fY),.int .i64 0])∧Below w.heap.size w w':=by
 subst h;exact Q2n c w
theorem V0h (s:fY) (c:UInt8) (r:List UInt8) (w:World) (hs:s.data.toList=c::r) (hc:c≠34∧c≠123):
 Calls prog 90 #[.string s] w (El7 1 ⟨#[c]⟩ 1 w):=by
 have he:0 < s.size:=(by rw [aC,hs];simp);have ha:=at0 s c _ hs he;have n34:((s[0].toNat:Int)==34)=false:=Y2 s[0] 34 (by rw [ha];exact hc.1);have n123:((s[0].toNat:Int)==123)=false:=Y2 s[0] 123 (by rw [ha];exact hc.2);have CT:=zW (fun W=>Q2n s[0] W);have hd:=zW ha;have HA:=zW ((aB w.heap.size w).alloc yQ (.cells #[.int .i64 0,.string ⟨#[]⟩,.int .i64 0] 31));clear hs hc ha;go_enter func90,ntmps90
 go_wp2_with (first
  | (go_at_call 137;refine (CT.o _).mono ?_;rintro e w1 ⟨rfl,hb⟩;obtain ⟨z0,z1,z2,y0,y1,y2⟩:=T3 hb;have HB:=zW (HA.o.trans (hb.mono HA.o.size));clear hb))
 refine bO (K9 rfl _ _ w.heap.size 1 0 ⟨#[s[0]]⟩ _ rfl rfl yU yU yU) rfl ?_;rw [hd.o];exact ⟨rfl,V5 HB.o _ _ _⟩
theorem V0g (s:fY) (r:List UInt8) (w:World) (hs:s.data.toList=34::34::r):
 Calls prog 90 #[.string s] w (El7 1 ⟨#[34]⟩ 2 w):=by
 have hc:0 < s.size:=(by rw [aC,hs];simp);have ha:=at0 s 34 _ hs hc;have n34:((s[0].toNat:Int)==34)=true:=(by rw [ha];rfl);have CB:=zW (fun W=>G4 s (⟨#[34,34]⟩:fY) true (by rw [hs];exact M4 [34,34] r) W (by show (2:Nat)≤_;decide));have CT:=zW (fun W=>Y2y 34 34 rfl W);have HA:=zW ((aB w.heap.size w).alloc yQ (.cells #[.int .i64 0,.string ⟨#[]⟩,.int .i64 0] 31));clear hs ha;go_enter func90,ntmps90
 go_wp2_with (first
  | (go_at_call 136;refine (CB.o _).mono ?_;rintro e w' ⟨rfl,rfl⟩)
  | (go_at_call 137;refine (CT.o _).mono ?_;rintro e w1 ⟨rfl,hb⟩;obtain ⟨z0,z1,z2,y0,y1,y2⟩:=T3 hb;have HB:=zW (HA.o.trans (hb.mono HA.o.size));clear hb))
 refine bO (K9 rfl _ _ w.heap.size 1 0 ⟨#[34]⟩ _ rfl rfl yU yU yU) rfl ?_;exact ⟨rfl,V5 HB.o _ _ _⟩
theorem Z3e (s:fY) (r:List UInt8) (w:World) (hs:s.data.toList=123::123::r):
 Calls prog 90 #[.string s] w (El7 1 ⟨#[123]⟩ 2 w):=by
 have hc:0 < s.size:=(by rw [aC,hs];simp);have ha:=at0 s 123 _ hs hc;have n34:((s[0].toNat:Int)==34)=false:=Y2 s[0] 34 (by rw [ha];decide);have n123:((s[0].toNat:Int)==123)=true:=(by rw [ha];rfl);have CB:=zW (fun W=>G4 s (⟨#[123,123]⟩:fY) true (by rw [hs];exact M4 [123,123] r) W (by show (2:Nat)≤_;decide));have CT:=zW (fun W=>Y2y 123 123 rfl W);have HA:=zW ((aB w.heap.size w).alloc yQ (.cells #[.int .i64 0,.string ⟨#[]⟩,.int .i64 0] 31));clear hs ha;go_enter func90,ntmps90
 go_wp2_with (first
  | (go_at_call 136;refine (CB.o _).mono ?_;rintro e w' ⟨rfl,rfl⟩)
  | (go_at_call 137;refine (CT.o _).mono ?_;rintro e w1 ⟨rfl,hb⟩;obtain ⟨z0,z1,z2,y0,y1,y2⟩:=T3 hb;have HB:=zW (HA.o.trans (hb.mono HA.o.size));clear hb))
 refine bO (K9 rfl _ _ w.heap.size 1 0 ⟨#[123]⟩ _ rfl rfl yU yU yU) rfl ?_;exact ⟨rfl,V5 HB.o _ _ _⟩
theorem Z0e (s nm:fY) (r:List UInt8) (w:World) (hs:s.data.toList=123::nm.data.toList++125::r) (hn:U3 nm.data.toList=true) (hsz1:s.size≤1000000):
 Calls prog 90 #[.string s] w (El7 5 nm (nm.size+2) w):=by
 have hc:0 < s.size:=(by rw [aC,hs];simp);have ha:=at0 s 123 _ hs hc;have n34:((s[0].toNat:Int)==34)=false:=Y2 s[0] 34 (by rw [ha];decide);have n123:((s[0].toNat:Int)==123)=true:=(by rw [ha];rfl);have CSL:=zW (fun W=>X4n s nm r W hs hn hsz1);have CB:=zW (fun W=>G4 s (⟨#[123,123]⟩:fY) false (by
  rw [hs];cases hl:nm.data.toList with
  | nil=>rw [hl] at hn;cases hn
  | cons a l=>
    show Lib.hasPrefix (123::a::(l++125::r)) [123,123]=false;unfold Lib.hasPrefix;rw [List.isPrefixOf,List.isPrefixOf];have:(123==a)=false:=by
     have:=I4 nm.data.toList hn 123 yW a (by rw [hl];simp);simpa using fun e:123=a=>this e.symm
    simp [this]) W (by show (2:Nat)≤_;decide))
 have HA:=zW ((aB w.heap.size w).alloc yQ (.cells #[.int .i64 0,.string ⟨#[]⟩,.int .i64 0] 31));clear hs hn ha;go_enter func90,ntmps90
 go_wp2_with (first
  | (go_at_call 136;refine (CB.o _).mono ?_;rintro e w' ⟨rfl,rfl⟩)
  | (go_at_call 138;refine (CSL.o _).mono ?_;rintro e w1 ⟨rfl,hb⟩;obtain ⟨z0,z1,z2,y0,y1,y2⟩:=T3 hb;have HB:=zW (HA.o.trans (hb.mono HA.o.size));clear hb))
 refine bO (K9 rfl _ _ w.heap.size 5 0 nm _ rfl rfl yU yU yU) rfl ?_;exact ⟨rfl,V5 HB.o _ _ _⟩
theorem Z3f (s:fY) (r l:List UInt8) (x:Tk) (w:World) (hs:s.data.toList=r++l) (hsz:s.size≤1000000) (h:ElOk 3 r (some x)):
 Calls prog 90 #[.string s] w (El7 x.k x.t r.length w):=by
 generalize hf:(3:Int)=fmt at h;generalize ho:some x=o at h;cases h with
 | slot _ n hn=>
   injection ho with ho;subst ho;have:=Z0e s (ofL n) l w (by rw [hs];simp [ofL]) (by simpa [ofL] using hn) hsz;rw [Q6] at this;have hl:(123::n++[125]:List UInt8).length=n.length+2:=yW;rw [hl];exact this
 | ch3 c hc=>
   injection ho with ho;subst ho;exact V0h s c l w hs hc
 | two c hc=>
   injection ho with ho;subst ho;rcases hc with rfl | rfl
   ·exact V0g s l w hs
   ·exact Z3e s l w hs
 | ch1 c hc=>cases hf
 | ref r c hr=>cases hf
 | opn t d ht hb=>cases hf
 | cls t d ht hb=>cases hf
 | emp t d ht hb=>cases hf
 | ch2 c hc=>cases hf
 | esc e c he=>cases hf
 | cont b hb=>cases hf
theorem V9j (s:fY) (c:UInt8) (r:List UInt8) (w:World) (hs:s.data.toList=c::r) (hc:c≠10∧c≠123∧c≠92):
 Calls prog 89 #[.string s] w (El7 1 ⟨#[c]⟩ 1 w):=by
 have he:0 < s.size:=(by rw [aC,hs];simp);have ha:=at0 s c _ hs he;have n10:((s[0].toNat:Int)==10)=false:=Y2 s[0] 10 (by rw [ha];exact hc.1);have n123:((s[0].toNat:Int)==123)=false:=Y2 s[0] 123 (by rw [ha];exact hc.2.1);have n92:((s[0].toNat:Int)==92)=false:=Y2 s[0] 92 (by rw [ha];exact hc.2.2);have CT:=zW (fun W=>Q2n s[0] W);have hd:=zW ha;have HA:=zW ((aB w.heap.size w).alloc yQ (.cells #[.int .i64 0,.string ⟨#[]⟩,.int .i64 0] 31));clear hs hc ha;go_enter func89,ntmps89
 go_wp2_with (first
  | (go_at_call 137;refine (CT.o _).mono ?_;rintro e w1 ⟨rfl,hb⟩;obtain ⟨z0,z1,z2,y0,y1,y2⟩:=T3 hb;have HB:=zW (HA.o.trans (hb.mono HA.o.size));clear hb))
 refine bO (K9 rfl _ _ w.heap.size 1 0 ⟨#[s[0]]⟩ _ rfl rfl yU yU yU) rfl ?_;rw [hd.o];exact ⟨rfl,V5 HB.o _ _ _⟩
theorem Z9y (s nm:fY) (r:List UInt8) (w:World) (hs:s.data.toList=123::nm.data.toList++125::r) (hn:U3 nm.data.toList=true) (hsz1:s.size≤1000000):
 Calls prog 89 #[.string s] w (El7 5 nm (nm.size+2) w):=by
 have hc:0 < s.size:=(by rw [aC,hs];simp);have ha:=at0 s 123 _ hs hc;have n10:((s[0].toNat:Int)==10)=false:=Y2 s[0] 10 (by rw [ha];decide);have n123:((s[0].toNat:Int)==123)=true:=(by rw [ha];rfl);have CSL:=zW (fun W=>X4n s nm r W hs hn hsz1);have HA:=zW ((aB w.heap.size w).alloc yQ (.cells #[.int .i64 0,.string ⟨#[]⟩,.int .i64 0] 31));clear hs hn ha;go_enter func89,ntmps89
 go_wp2_with (first
  | (go_at_call 138;refine (CSL.o _).mono ?_;rintro e w1 ⟨rfl,hb⟩;obtain ⟨z0,z1,z2,y0,y1,y2⟩:=T3 hb;have HB:=zW (HA.o.trans (hb.mono HA.o.size));clear hb))
 refine bO (K9 rfl _ _ w.heap.size 5 0 nm _ rfl rfl yU yU yU) rfl ?_;exact ⟨rfl,V5 HB.o _ _ _⟩
def ek:Nat→UInt8 | 0=>110 | 1=>116 | 2=>115 | 3=>114 | 4=>92 | _=>123
def ev:Nat→UInt8 | 0=>10 | 1=>9 | 2=>32 | 3=>13 | 4=>92 | _=>123
theorem U0q {j:Nat} (h:j < 6):∀ W,(Instr.index 202 (.agg #[.string (⟨#[110,10]⟩:fY),.string (⟨#[116,9]⟩:fY),.string (⟨#[115,32]⟩:fY),.string (⟨#[114,13]⟩:fY),.string (⟨#[92,92]⟩:fY),.string (⟨#[123,123]⟩:fY)]) (.int .i64 (j:Int))).run prog W=.ok (.string (⟨#[ek j,ev j]⟩:fY)) W:=by
 rcases (show j=0∨j=1∨j=2∨j=3∨j=4∨j=5 by omega) with rfl | rfl | rfl | rfl | rfl | rfl<;>exact fun _=>yZ
theorem U3f:∀ i,i < 6→∀ j,j < 6→i≠j→ek i≠ek j:=yX
theorem U3g:∀ i,i < 6→(10:UInt8)≠ek i:=yX
theorem U4d (s:fY) (c:UInt8) (r:List UInt8) (hs:s.data.toList=92::c::r):∃ h:1 < s.size,s[1]=c∧((s[0].toNat:Int)==10)=false∧((s[0].toNat:Int)==123)=false∧((s[0].toNat:Int)==92)=true:=by
 have hd:0 < s.size:=(by rw [aC,hs];simp);have ha:=at0 s 92 _ hs hd;have hb:1 < s.size:=(by rw [aC,hs];simp);have hc:s[1]=c:=by
  have:s.data.toList[1]'(by rw [hs];simp)=c:=(by simp only [hs];rfl);exact this
 exact ⟨hb,hc,Y2 s[0] 10 (by rw [ha];decide),Y2 s[0] 123 (by rw [ha];decide),by rw [ha];rfl⟩
theorem Q4v (K:Nat) (hK:K < 6) (s:fY) (r:List UInt8) (w:World) (hs:s.data.toList=92::ek K::r):
 Calls prog 89 #[.string s] w (El7 1 ⟨#[ev K]⟩ 2 w):=by
 obtain ⟨R,he⟩:∃ R:Ending→World→Prop,yK (R=El7 1 ⟨#[ev K]⟩ 2 w):=⟨_,rfl⟩;rw [←he.o];obtain ⟨hn,hh,n10,n123,n92⟩:=U4d s _ r hs;have hl:(1:Int) < (s.size:Int):=yY;have hm:(0:Int)≤1:=yX;have h2:¬ ((s.size:Int) < 2):=yY;have HC:=zW hh;have HA:=zW ((aB w.heap.size w).alloc yQ (.cells #[.int .i64 0,.string ⟨#[]⟩,.int .i64 0] 31));clear hs hh;go_enter func89,ntmps89
 go_wp2_with fail
 go_loopg [25] 7 (fun gk iv wr=>∃ k q:Nat,iv=.int .i64 k∧k≤K∧yK (wr=(w.alloc (.cells #[.int .i64 0,.string ⟨#[]⟩,.int .i64 0] 31)).drewN q)∧7 - k≤gk)
 case atStart=>exact ⟨0,0,rfl,aO _,rfl,yQ⟩
 case round=>
  obtain ⟨k,q,rfl,hk,HW,hgk⟩:=hrel;have hi:=HW.o;subst hi;have hj:=zW (Q1 (aB (w.alloc (.cells #[.int .i64 0,.string ⟨#[]⟩,.int .i64 0] 31)).heap.size (w.alloc (.cells #[.int .i64 0,.string ⟨#[]⟩,.int .i64 0] 31))) q);have ho:(k:Int) < 6:=yY;have x0:=U0q (j:=k) yY;have hd:=zW (U3f K hK k yY);have hc:yK (k=K→ev k=ev K):=fun e=>by rw [e]
  have ha:yK (k=K→ek K=ek k):=fun e=>by rw [e]
  generalize ek k=a at *;generalize ev k=b at *;have l0:∀ h,((⟨#[a,b]⟩:fY)[0]'h).toNat=a.toNat:=fun _=>rfl;have m0:∀ h,((⟨#[a,b]⟩:fY)[1]'h).toNat=b.toNat:=fun _=>rfl;by_cases hkK:k=K
  ·have e0:((s[1].toNat:Int)==(a.toNat:Int))=true:=(by rw [HC.o,ha.o hkK];simp);have hg:=hc.o hkK;have CT:=zW (fun W=>Q2n b W);rw [hg] at CT;clear hd hc ha hkK;subst hg;go_wp2_with fail
   go_quiet (fail)
   go_wp2_with (go_at_call 137;go_loud (refine (CT.o _).mono ?_);rintro e w1 ⟨rfl,hf⟩;have hb:Below (w.alloc (.cells #[.int .i64 0,.string ⟨#[]⟩,.int .i64 0] 31)).heap.size (w.alloc (.cells #[.int .i64 0,.string ⟨#[]⟩,.int .i64 0] 31)) w1:=Below.trans (by repeat' (first | exact aB _ _ | refine Q1 ?_ _)) (hf.mono (show (w.alloc (.cells #[.int .i64 0,.string ⟨#[]⟩,.int .i64 0] 31)).heap.size≤_ from yQ));obtain ⟨z0,z1,z2,y0,y1,y2⟩:=T3 hb;have HB:=zW (HA.o.trans (hb.mono HA.o.size));clear hb hf)
   refine bO (K9 rfl _ _ w.heap.size 1 0 ⟨#[ev K]⟩ _ rfl rfl yU yU yU) rfl ?_;rw [he.o];exact ⟨rfl,V5 HB.o _ _ _⟩
  ·have e0:((s[1].toNat:Int)==(a.toNat:Int))=false:=(by rw [HC.o];have:=hd.o (fun e=>hkK e.symm);rw [aI];intro e;exact this (cN.1 (by exact_mod_cast e)));clear hd hc ha;go_wp2_with fail
   go_quiet (fail)
   go_wp2_with fail
   go_roundg (6 - k)
   case measure=>omega
   case rel=>exact ⟨k+1,q+nq,by go_num,yY,(by show _=_;first | rfl | rw [World.drewN_drewN]),yY⟩
theorem Z9x (s:fY) (b r:List UInt8) (w:World) (hs:s.data.toList=[92,10]++(b++r)) (hb:∀ c∈b,c=32∨c=9) (hr:r.head? ≠some 32∧r.head? ≠some 9) (hsz1:s.size≤1000000):
 Calls prog 89 #[.string s] w (El7 0 ⟨#[]⟩ (b.length+2) w):=by
 obtain ⟨R,hf⟩:∃ R:Ending→World→Prop,yK (R=El7 0 ⟨#[]⟩ (b.length+2) w):=⟨_,rfl⟩;rw [←hf.o];have he:s.size=2+(b.length+r.length):=(by rw [aC,hs];simp;omega);have hj:=zW (M5 s [92,10] (b++r) hs);have hn:=zW hb;have HR:=zW hr;obtain ⟨hw,hg,n10,n123,n92⟩:=U4d s 10 (b++r) hs;have hu:(1:Int) < (s.size:Int):=yY;have hv:(0:Int)≤1:=yX;have h2:¬ ((s.size:Int) < 2):=yY;have d10:((s[1].toNat:Int) != 10)=false:=(by rw [hg];rfl);have HC:=zW hg;have HA:=zW ((aB w.heap.size w).alloc yQ (.cells #[.int .i64 0,.string ⟨#[]⟩,.int .i64 0] 31));have hd:=zW he;clear hs hg hb hr he;go_enter func89,ntmps89
 go_wp2_with fail
 go_loopg [25] 7 (fun gk iv wr=>∃ k q:Nat,iv=.int .i64 k∧k≤6∧yK (wr=(w.alloc (.cells #[.int .i64 0,.string ⟨#[]⟩,.int .i64 0] 31)).drewN q)∧7 - k≤gk)
 case atStart=>exact ⟨0,0,rfl,aO _,rfl,yQ⟩
 case round=>
  obtain ⟨k,q,rfl,hk,HW,hgk⟩:=hrel;have hi:=HW.o;subst hi;by_cases hk6:k < 6
  ·have hx:(k:Int) < 6:=yY;have x0:=U0q hk6;have hl:=U3g k hk6;generalize ek k=a at *;generalize ev k=bb at *;have l0:∀ h,((⟨#[a,bb]⟩:fY)[0]'h).toNat=a.toNat:=fun _=>rfl;have e0:((s[1].toNat:Int)==(a.toNat:Int))=false:=(by rw [HC.o,aI];intro e;exact hl (cN.1 (by exact_mod_cast e)));clear hl;go_wp2_with fail
   go_quiet (fail)
   go_wp2_with fail
   go_roundg (6 - k)
   case measure=>omega
   case rel=>exact ⟨k+1,q+nq,by go_num,yY,(by show _=_;first | rfl | rw [World.drewN_drewN]),yY⟩
  ·obtain rfl:k=6:=yY;go_wp2_with fail
   go_loopg [6] (b.length+1) (fun gk2 iv wz=>∃ m q2:Nat,iv=.int .i64 ((2+m:Nat):Int)∧m≤b.length∧yK (wz=(w.alloc (.cells #[.int .i64 0,.string ⟨#[]⟩,.int .i64 0] 31)).drewN q2)∧b.length+1 - m≤gk2)
   case atStart=>exact ⟨0,q,rfl,aO _,rfl,yQ⟩
   case round=>
    obtain ⟨m,q2,rfl,hm,ho,hq⟩:=hrel;have hi:=ho.o;subst hi;obtain ⟨p,hp⟩:∃ p,p=2+m:=⟨_,rfl⟩;rw [←hp];by_cases hlt:m < b.length
    ·have hh:p < s.size:=(by have:=hd.o;omega);have ht:(p:Int) < (s.size:Int):=yY;have hc:=(hj.o m p yV hp hh).trans (cI hlt);have ha:=hn.o b[m] (aL hlt);rw [←hc] at ha;have HS:yK ((p:Int)+1=((2+(m+1):Nat):Int)):=(by show _=_;omega);clear hc hp;rcases ha with ha | ha
     ·have f1:((s[p].toNat:Int)==32)=true:=(by rw [ha];rfl);clear ha;go_wp2_with fail
      rw [HS.o];go_roundg (b.length - m)
      case measure=>omega
      case rel=>exact ⟨m+1,q2,rfl,hlt,rfl,yY⟩
     ·have f1:((s[p].toNat:Int)==32)=false:=(by rw [ha];rfl);have f2:((s[p].toNat:Int)==9)=true:=(by rw [ha];rfl);clear ha;go_wp2_with fail
      rw [HS.o];go_roundg (b.length - m)
      case measure=>omega
      case rel=>exact ⟨m+1,q2,rfl,hlt,rfl,yY⟩
    ·obtain rfl:m=b.length:=yY;have HS:yK ((p:Int)=((b.length+2:Nat):Int)):=(by show _=_;omega);cases r with
     | nil=>
       have hy:¬ (p:Int) < (s.size:Int):=(by have:=hd.o;simp at this;omega);clear hp;go_wp2_with fail
       refine bO (K9 rfl _ _ w.heap.size 0 0 ⟨#[]⟩ _ rfl rfl yU yU yU) rfl ?_;rw [hf.o];refine ⟨by rw [←HS.o];rfl,?_⟩;first | exact V5 (Q1 HA.o q2) _ _ _ | exact Q1 (V5 HA.o _ _ _) q2
     | cons c r=>
       have hh:p < s.size:=(by have:=hd.o;simp at this;omega);have ht:(p:Int) < (s.size:Int):=yY;have hc:s[p]=c:=(hj.o b.length p yW hp hh).trans (by rw [bK yQ];simp);have f1:((s[p].toNat:Int)==32)=false:=Y2 s[p] 32 (by rw [hc];intro e;exact HR.o.1 (by rw [e];rfl));have f2:((s[p].toNat:Int)==9)=false:=Y2 s[p] 9 (by rw [hc];intro e;exact HR.o.2 (by rw [e];rfl));clear hc hp;go_wp2_with fail
       refine bO (K9 rfl _ _ w.heap.size 0 0 ⟨#[]⟩ _ rfl rfl yU yU yU) rfl ?_;rw [hf.o];refine ⟨by rw [←HS.o];rfl,?_⟩;first | exact V5 (Q1 HA.o q2) _ _ _ | exact Q1 (V5 HA.o _ _ _) q2
theorem X4h (s:fY) (w:World) (hc:N9 s.data.toList=true) (hN:(⟨(M8 s.data.toList).toArray⟩:fY)=ofL (Z0 s.data.toList)):
 Calls prog 140 #[.string s] w fun e w'=>e=.returned (.bool true)∧w=w':=by
 obtain ⟨R,hh⟩:∃ R:Ending→World→Prop,yK (R=fun e w'=>e=.returned (.bool true)∧w=w'):=⟨_,rfl⟩;rw [←hh.o];obtain ⟨h1,h2,h3,h4,h5⟩:=J0 _ hc;obtain ⟨l,d,hf,hd⟩:=Q8e _ hc;have hb:=aC s;obtain ⟨k,hk⟩:∃ k,s.size=k+1:=⟨l.length,by rw [hb,hf,aA];rfl⟩;have hp:k+1≤64:=yY;have hq:k < s.size:=yY;have ha:s[k]=d:=by
  have hs:l.length=k:=(by have:=congrArg List.length hf;rw [←hb,aA] at this;simp at this;omega);have:s.data.toList[k]'(by rw [←hb];exact hq)=d:=by
   simp only [hf];rw [bK yY];simp [hs]
  exact this
 have n1:((s[k].toNat:Int) != 47)=true:=by
  rw [ha,dZ];intro e;exact hd (cN.1 (by exact_mod_cast e))
 have t1:¬ (64:Int) < (k:Int)+1:=yY;have CM:=zW (fun w=>B8 s w yY);rw [hN] at CM;have CN:=zW (fun w=>Q3q (ofL (Z0 s.data.toList)) w (by rw [Q6];have:=X2v s.data.toList;unfold maxLen;omega));rw [show (ofL (Z0 s.data.toList)).data.toList=Z0 s.data.toList by simp [ofL],h4] at CN;have hg:yK (∀ (i:Nat) (h:i < s.size),Y6o s[i]=true):=fun i h=>by
  have:=h3 (s.data.toList[i]'(by rw [←hb];exact h)) (aL _);exact this
 have hl:(ofL (Z0 s.data.toList)).size=s.size∨((ofL (Z0 s.data.toList)).size≠s.size∧(ofL (Z0 s.data.toList)).size+1 < s.size):=by
  rw [Q6,hb];rcases Nat.lt_or_ge ((Z0 s.data.toList).length+1) s.data.toList.length with h | h
  ·exact .inr ⟨yY,h⟩
  ·rcases h5 with h5 | h5
   ·exact .inl h5
   ·omega
 rw [hk] at hl;have hm:=zW hl;have ht:(ofL (Z0 s.data.toList)).size≤64:=(by rw [Q6];have:=X2v s.data.toList;omega);clear h1 h2 h3 h4 h5 hf hd ha hc hb hl hN;generalize ofL (Z0 s.data.toList)=a at *;obtain ⟨wo,hj⟩:∃ wo,yK (wo=w):=⟨w,rfl⟩;go_enter func140,ntmps140
 go_wp2_with fail
 go_loopg [3] (k+1) (fun gk iv wr=>∃ (i:Nat),iv=.int .i64 (i:Nat)∧i≤k+1∧yK (wr=wo)∧k+1 - i≤gk)
 case atStart=>exact ⟨0,rfl,aO _,hj.o.symm,yQ⟩
 case round=>
  obtain ⟨i,rfl,hi,HW,hgk⟩:=hrel;by_cases hlt:i < k+1
  ·have ho:i < s.size:=yY;have he:=hg.o i ho;have hn:=X5x _ he;have hr:32≤s[i].toNat∧s[i].toNat≤126:=by
    unfold Y6o at he;simp only [dC,cG] at he;exact he.1.1.1.1
   obtain ⟨r1,r2⟩:=hr;have q1:¬ ((s[i].toNat:Int) < 32):=yY;have q2:¬ ((126:Int) < (s[i].toNat:Int)):=yY;have b1:((s[i].toNat:Int)==60)=false:=Y2 s[i] 60 hn.1;have b2:((s[i].toNat:Int)==62)=false:=Y2 s[i] 62 hn.2.1;have b3:((s[i].toNat:Int)==123)=false:=Y2 s[i] 123 hn.2.2.1;have b4:((s[i].toNat:Int)==125)=false:=Y2 s[i] 125 hn.2.2.2;clear he hn;go_wp2_with fail
   go_roundg (k+1 - (i+1))
   case measure=>omega
   case rel=>exact ⟨i+1,rfl,hlt,HW.o,yY⟩
  ·obtain rfl:i=k+1:=yY;rcases hm.o with h | ⟨h,h6⟩
   ·have a1:((a.size:Int)==(k:Int)+1)=true:=(by rw [cM];omega);clear h;go_wp2_with (first
     | (go_at_call 36;refine (CM.o _).mono ?_;rintro e w1 ⟨rfl,rfl⟩)
     | (go_at_call 139;refine (CN.o _).mono ?_;rintro e w' ⟨rfl,rfl⟩))
    first | go_ret | skip
    rw [hh.o];exact ⟨rfl,(HW.o.trans hj.o).symm⟩
   ·have a1:((a.size:Int)==(k:Int)+1)=false:=(by rw [aI];omega);have a2:(a.size:Int)+1 < (k:Int)+1:=yY;clear h;go_wp2_with (first
     | (go_at_call 36;refine (CM.o _).mono ?_;rintro e w1 ⟨rfl,rfl⟩)
     | (go_at_call 139;refine (CN.o _).mono ?_;rintro e w' ⟨rfl,rfl⟩))
    first | go_ret | skip
    rw [hh.o];exact ⟨rfl,(HW.o.trans hj.o).symm⟩
theorem Y4e (t r:List UInt8) (h:∀ b∈t,b≠62):Lib.index (t++62::r) [62]=(t.length:Int):=by
 have:=X1o [62] (62::r) 0 (by rw [Lib.index,aK (by rw [eI];exact ⟨r,rfl⟩)];rfl) t (fun i hi=>by
  obtain ⟨q,hq⟩:=Y4c t (62::r) i hi;rw [hq];exact L5 _ _ _ _ (fun e=>h _ (aL hi) e.symm))
 rw [this];simp
theorem X2t (s t:fY) (r:List UInt8) (w:World) (hs:s.data.toList=60::t.data.toList++62::r) (hsz:s.size≤1000000) (hc:N9 t.data.toList=true):
 Calls prog 135 #[.string s] w (El7 2 t (t.size+2) w):=by
 have hl:s.size=t.size+2+r.length:=(by rw [aC,hs,aC t];simp;omega);obtain ⟨u,HU⟩:∃ u:fY,yK (u=ofL (t.data.toList)):=⟨ofL (t.data.toList),rfl⟩;have ha:u.data.toList=t.data.toList:=(by rw [HU.o];simp [ofL]);have he:u.size=t.size+0:=(by rw [aC,ha,aC t];simp);have hd:s.data.toList=60::(u.data.toList++62::r):=(by rw [hs,ha];simp);have hb:s.extract 1 (1+(t.size+0))=u:=E7 _ _ _ _ (Q1s (p:=[60]) (q:=62::r) (by rw [hd];simp) rfl (by rw [←aC,he]));have hm:u=t:=(by rw [HU.o];exact X0a t);have hf:∀ b∈u.data.toList,b≠62:=(by rw [ha];exact (Q1c _ hc).1);have CB:=zW (fun W=>G4 t (⟨#[47]⟩:fY) false (by
  obtain ⟨c,l,e,hh⟩:=G3 _ hc;rw [e];exact Q1m c 47 l [] (T8 c hh 47 yW)) W yX)
 have CC:=zW (fun W=>X4h t W hc rfl);rw [hm] at hb;have hj:0 < t.size:=by
  obtain ⟨c,l,e,hh⟩:=G3 _ hc;rw [aC,e];simp
 have ho:(0:Int) < (t.size:Int):=yY;have hg:((t[t.size - 1].toNat:Int)==47)=false:=by
  obtain ⟨l,d,e,hd⟩:=Q8e _ hc;have hk:t.size=l.length+1:=(by rw [aC,e];simp);have:t[t.size - 1]=d:=by
   have h3:t.data.toList[t.size - 1]'(by rw [←aC];omega)=d:=by
    simp only [e,hk];simp
   exact h3
  rw [this];exact Y2 d 47 hd
 have CF:=zW (fun W=>Q4f s (⟨#[62]⟩:fY) 1 (t.size+0) W (by rw [hd];show Lib.index (u.data.toList++62::r) [62]=_;rw [Y4e _ _ hf,←aC,he]) yX hsz yX);have ht:t.size≤1000000:=yY;obtain ⟨n,hn⟩:∃ n,n=t.size+0:=⟨_,rfl⟩;rw [←hn] at hb CF he;have hi:1+n≤s.size:=yY;obtain ⟨p,hp⟩:∃ p,p=1+n:=⟨_,rfl⟩;rw [←hp] at hb CF hi;have hq:1≤p:=yY;have hr:p≤1000002:=yY;have HR:yK ((p:Int)+1=((t.size+2:Nat):Int)):=(by show _=_;omega);have HA:=zW ((aB w.heap.size w).alloc yQ (.cells #[.int .i64 0,.string ⟨#[]⟩,.int .i64 0] 31));clear hs hc hd hl ha HU hf hp;go_enter func135,ntmps135
 go_wp2_with (first
  | (go_at_call 174;refine (CF.o _).mono ?_;rintro e w' ⟨rfl,rfl⟩)
  | (go_at_call 136;refine (CB.o _).mono ?_;rintro e w' ⟨rfl,rfl⟩)
  | (go_at_call 140;refine (CC.o _).mono ?_;rintro e w' ⟨rfl,rfl⟩))
 refine bO (K9 rfl _ _ w.heap.size 2 0 t _ rfl rfl yU yU yU) rfl ?_;refine ⟨by rw [←HR.o];rfl,?_⟩
 (repeat' (first | with_reducible exact aB _ _ | refine Q1 ?_ _ | refine eC ?_ | refine eE ?_ yW _ | refine fD ?_ yW _))
theorem Z0n (s t:fY) (r:List UInt8) (w:World) (hs:s.data.toList=60::t.data.toList++47::62::r) (hsz:s.size≤1000000) (hc:N9 t.data.toList=true):
 Calls prog 135 #[.string s] w (El7 4 t (t.size+3) w):=by
 have hl:s.size=t.size+3+r.length:=(by rw [aC,hs,aC t];simp;omega);obtain ⟨u,HU⟩:∃ u:fY,yK (u=ofL (t.data.toList++[47])):=⟨ofL (t.data.toList++[47]),rfl⟩;have ha:u.data.toList=t.data.toList++[47]:=(by rw [HU.o];simp [ofL]);have he:u.size=t.size+1:=(by rw [aC,ha,aC t];simp);have hd:s.data.toList=60::(u.data.toList++62::r):=(by rw [hs,ha];simp);have hf:s.extract 1 (1+(t.size+1))=u:=E7 _ _ _ _ (Q1s (p:=[60]) (q:=62::r) (by rw [hd];simp) rfl (by rw [←aC,he]));have hg:∀ b∈u.data.toList,b≠62:=by
  rw [ha];intro b hb;rcases aS.1 hb with hb | hb
  ·exact (Q1c _ hc).1 b hb
  ·rw [aJ.1 hb];decide
 have hi:u.extract 0 t.size=t:=E7 _ _ _ _ (Q1s (p:=[]) (q:=[47]) (by rw [ha];simp) rfl (by rw [←aC];omega));have CB:=zW (fun W=>G4 u (⟨#[47]⟩:fY) false (by
  obtain ⟨c,l,e,hh⟩:=G3 _ hc;rw [ha,e];exact Q1m c 47 _ [] (T8 c hh 47 yW)) W yX)
 have CC:=zW (fun W=>X4h t W hc rfl);have hj:∀ h,((u[t.size]'h).toNat:Int)=47:=fun h=>by
  have:u[t.size]=47:=by
   have h3:u.data.toList[t.size]'(by rw [←aC];exact h)=47:=by
    simp only [ha];rw [bK (by rw [←aC];exact yQ)];simp [←aC]
   exact h3
  rw [this];rfl
 have CF:=zW (fun W=>Q4f s (⟨#[62]⟩:fY) 1 (t.size+1) W (by rw [hd];show Lib.index (u.data.toList++62::r) [62]=_;rw [Y4e _ _ hg,←aC,he]) yX hsz yX);have hq:t.size≤1000000:=yY;obtain ⟨n,hn⟩:∃ n,n=t.size+1:=⟨_,rfl⟩;rw [←hn] at hf CF he;have hk:1+n≤s.size:=yY;obtain ⟨p,hp⟩:∃ p,p=1+n:=⟨_,rfl⟩;rw [←hp] at hf CF hk;have hm:1≤p:=yY;have ho:p≤1000002:=yY;have HR:yK ((p:Int)+1=((t.size+3:Nat):Int)):=(by show _=_;omega);have HA:=zW ((aB w.heap.size w).alloc yQ (.cells #[.int .i64 0,.string ⟨#[]⟩,.int .i64 0] 31));clear hs hc hd hl ha HU hg hp;go_enter func135,ntmps135
 go_wp2_with (first
  | (go_at_call 174;refine (CF.o _).mono ?_;rintro e w' ⟨rfl,rfl⟩)
  | (go_at_call 136;refine (CB.o _).mono ?_;rintro e w' ⟨rfl,rfl⟩)
  | (go_at_call 140;refine (CC.o _).mono ?_;rintro e w' ⟨rfl,rfl⟩))
 refine bO (K9 rfl _ _ w.heap.size 4 0 t _ rfl rfl yU yU yU) rfl ?_;refine ⟨by rw [←HR.o];rfl,?_⟩
 (repeat' (first | with_reducible exact aB _ _ | refine Q1 ?_ _ | refine eC ?_ | refine eE ?_ yW _ | refine fD ?_ yW _))
theorem Z0m (s t:fY) (r:List UInt8) (w:World) (hs:s.data.toList=60::47::t.data.toList++62::r) (hsz:s.size≤1000000) (hc:U3 t.data.toList=true):
 Calls prog 135 #[.string s] w (El7 3 t (t.size+3) w):=by
 have hj:s.size=t.size+3+r.length:=(by rw [aC,hs,aC t];simp;omega);obtain ⟨u,HU⟩:∃ u:fY,yK (u=ofL (47::t.data.toList)):=⟨ofL (47::t.data.toList),rfl⟩;have ha:u.data.toList=47::t.data.toList:=(by rw [HU.o];simp [ofL]);have he:u.size=t.size+1:=(by rw [aC,ha,aC t];simp);have hd:s.data.toList=60::(u.data.toList++62::r):=(by rw [hs,ha];simp);have hf:s.extract 1 (1+(t.size+1))=u:=E7 _ _ _ _ (Q1s (p:=[60]) (q:=62::r) (by rw [hd];simp) rfl (by rw [←aC,he]));have hg:∀ b∈u.data.toList,b≠62:=by
  rw [ha];intro b hb;rcases aU.1 hb with rfl | hb
  ·decide
  ·exact I4 _ hc 62 yW b hb
 have hh:u.extract 1 (t.size+1)=t:=E7 _ _ _ _ (Q1s (p:=[47]) (q:=[]) (by rw [ha];simp) rfl (by rw [←aC];omega));have CB:=zW (fun W=>G4 u (⟨#[47]⟩:fY) true (by rw [ha];exact M4 [47] t.data.toList) W yX);have CN:=zW (fun W=>Q3q t W (by unfold maxLen;omega));rw [hc] at CN;have CF:=zW (fun W=>Q4f s (⟨#[62]⟩:fY) 1 (t.size+1) W (by rw [hd];show Lib.index (u.data.toList++62::r) [62]=_;rw [Y4e _ _ hg,←aC,he]) yX hsz yX);have hm:t.size≤1000000:=yY;obtain ⟨n,hn⟩:∃ n,n=t.size+1:=⟨_,rfl⟩;rw [←hn] at hf CF he;have hi:1+n≤s.size:=yY;obtain ⟨p,hp⟩:∃ p,p=1+n:=⟨_,rfl⟩;rw [←hp] at hf CF hi;have hk:1≤p:=yY;have hl:p≤1000002:=yY;have HR:yK ((p:Int)+1=((t.size+3:Nat):Int)):=(by show _=_;omega);have HA:=zW ((aB w.heap.size w).alloc yQ (.cells #[.int .i64 0,.string ⟨#[]⟩,.int .i64 0] 31));clear hs hc hd hj ha HU hg hp;go_enter func135,ntmps135
 go_wp2_with (first
  | (go_at_call 174;refine (CF.o _).mono ?_;rintro e w' ⟨rfl,rfl⟩)
  | (go_at_call 136;refine (CB.o _).mono ?_;rintro e w' ⟨rfl,rfl⟩)
  | (go_at_call 139;refine (CN.o _).mono ?_;rintro e w' ⟨rfl,rfl⟩))
 refine bO (K9 rfl _ _ w.heap.size 3 0 t _ rfl rfl yU yU yU) rfl ?_;refine ⟨by rw [←HR.o];rfl,?_⟩
 (repeat' (first | with_reducible exact aB _ _ | refine Q1 ?_ _ | refine eC ?_ | refine eE ?_ yW _ | refine fD ?_ yW _))
theorem X9v:∀ (t:List UInt8),(∀ b∈t,b≠32)→Z0 t=t
 | [],_=>rfl
 | c::t,h=>by
   have h1:(c != 32)=true:=(by simpa using h c yW);have h2:=X9v t (fun b hb=>h b (by simp [hb]));unfold Z0 at h2 ⊢;rw [dT,aK h1,h2]
theorem Q4t (s:fY) (w:World) (h:U4 s.data.toList=false):Calls prog 51 #[.string s] w fun e w'=>e=.returned (.bool false)∧w=w':=by
 rw [←Y7] at h;unfold U4 wP wH wLi wTd X4y at h;simp only [Bool.or_eq_false_iff] at h;obtain ⟨⟨⟨⟨h1,h2⟩,h3⟩,h4⟩,h5⟩:=h;go_enter func51,ntmps51
 go_wp2_with fail
 go_ret
 exact ⟨rfl,rfl⟩
theorem U1t (s:fY) (c:UInt8) (r:List UInt8) (w:World) (hs:s.data.toList=c::r) (hc:c≠60∧c≠38∧c≠123):
 Calls prog 88 #[.string s] w (El7 1 ⟨#[c]⟩ 1 w):=by
 have he:0 < s.size:=(by rw [aC,hs];simp);have ha:=at0 s c _ hs he;have n60:((s[0].toNat:Int)==60)=false:=Y2 s[0] 60 (by rw [ha];exact hc.1);have n38:((s[0].toNat:Int)==38)=false:=Y2 s[0] 38 (by rw [ha];exact hc.2.1);have n123:((s[0].toNat:Int)==123)=false:=Y2 s[0] 123 (by rw [ha];exact hc.2.2);have CT:=zW (fun W=>Q2n s[0] W);have hd:=zW ha;have HA:=zW ((aB w.heap.size w).alloc yQ (.cells #[.int .i64 0,.string ⟨#[]⟩,.int .i64 0] 31));clear hs hc ha;go_enter func88,ntmps88
 go_wp2_with (first
  | (go_at_call 137;refine (CT.o _).mono ?_;rintro e w1 ⟨rfl,hb⟩;obtain ⟨z0,z1,z2,y0,y1,y2⟩:=T3 hb;have HB:=zW (HA.o.trans (hb.mono HA.o.size));clear hb))
 refine bO (K9 rfl _ _ w.heap.size 1 0 ⟨#[s[0]]⟩ _ rfl rfl yU yU yU) rfl ?_;rw [hd.o];exact ⟨rfl,V5 HB.o _ _ _⟩
theorem V3y (s nm:fY) (r:List UInt8) (w:World) (hs:s.data.toList=123::nm.data.toList++125::r) (hn:U3 nm.data.toList=true) (hsz1:s.size≤1000000):
 Calls prog 88 #[.string s] w (El7 5 nm (nm.size+2) w):=by
 have hc:0 < s.size:=(by rw [aC,hs];simp);have ha:=at0 s 123 _ hs hc;have n60:((s[0].toNat:Int)==60)=false:=Y2 s[0] 60 (by rw [ha];decide);have n38:((s[0].toNat:Int)==38)=false:=Y2 s[0] 38 (by rw [ha];decide);have n123:((s[0].toNat:Int)==123)=true:=(by rw [ha];rfl);have CSL:=zW (fun W=>X4n s nm r W hs hn hsz1);have HA:=zW ((aB w.heap.size w).alloc yQ (.cells #[.int .i64 0,.string ⟨#[]⟩,.int .i64 0] 31));clear hs hn ha;go_enter func88,ntmps88
 go_wp2_with (first
  | (go_at_call 138;refine (CSL.o _).mono ?_;rintro e w1 ⟨rfl,hb⟩;obtain ⟨z0,z1,z2,y0,y1,y2⟩:=T3 hb;have HB:=zW (HA.o.trans (hb.mono HA.o.size));clear hb))
 refine bO (K9 rfl _ _ w.heap.size 5 0 nm _ rfl rfl yU yU yU) rfl ?_;exact ⟨rfl,V5 HB.o _ _ _⟩
def rfP:Nat→List UInt8 | 0=>[38,108,116,59] | 1=>[38,103,116,59] | 2=>[38,97,109,112,59] | 3=>[38,108,98,59] | _=>[38,114,98,59]
def rfC:Nat→UInt8 | 0=>60 | 1=>62 | 2=>38 | 3=>123 | _=>125
def rfS (j:Nat):fY:=⟨(rfP j++[rfC j]).toArray⟩
theorem V5c:∀ j,j < 5→(rfS j).size=(rfP j).length+1∧(rfS j).extract 0 (rfP j).length=ofL (rfP j)∧(∀ h,((rfS j)[(rfP j).length]'h).toNat=(rfC j).toNat)∧(rfP j).length≤5∧0 < (rfP j).length:=yX
theorem U3w {j:Nat} (h:j < 5):∀ W,(Instr.index 200 (.agg #[.string (⟨#[38,108,116,59,60]⟩:fY),.string (⟨#[38,103,116,59,62]⟩:fY),.string (⟨#[38,97,109,112,59,38]⟩:fY),.string (⟨#[38,108,98,59,123]⟩:fY),.string (⟨#[38,114,98,59,125]⟩:fY)]) (.int .i64 (j:Int))).run prog W=.ok (.string (rfS j)) W:=by
 rcases (show j=0∨j=1∨j=2∨j=3∨j=4 by omega) with rfl | rfl | rfl | rfl | rfl<;>exact fun _=>yZ
theorem U2d (K j:Nat) (hK:K < 5) (hj:j < 5) (r:List UInt8):Lib.hasPrefix (rfP K++r) (rfP j)=decide (j=K):=by
 rcases (show K=0∨K=1∨K=2∨K=3∨K=4 by omega) with rfl | rfl | rfl | rfl | rfl<;>rcases (show j=0∨j=1∨j=2∨j=3∨j=4 by omega) with rfl | rfl | rfl | rfl | rfl<;>simp [rfP,Lib.hasPrefix,List.isPrefixOf]
theorem X1u (K:Nat) (hK:K < 5) (s:fY) (r:List UInt8) (w:World) (hs:s.data.toList=rfP K++r):
 Calls prog 88 #[.string s] w (El7 1 ⟨#[rfC K]⟩ (rfP K).length w):=by
 obtain ⟨R,he⟩:∃ R:Ending→World→Prop,yK (R=El7 1 ⟨#[rfC K]⟩ (rfP K).length w):=⟨_,rfl⟩;rw [←he.o];obtain ⟨q,hq⟩:∃ q,rfP K=38::q:=⟨(rfP K).tail,by rcases (show K=0∨K=1∨K=2∨K=3∨K=4 by omega) with rfl | rfl | rfl | rfl | rfl<;>rfl⟩;have hi:0 < s.size:=(by rw [aC,hs,hq];simp);have ha:=at0 s 38 _ (by rw [hs,hq];rfl) hi;have n60:((s[0].toNat:Int)==60)=false:=Y2 s[0] 60 (by rw [ha];decide);have n38:((s[0].toNat:Int)==38)=true:=(by rw [ha];rfl);have hc:=zW (fun (j:Nat) (hj:j < 5) W=>G4 s (ofL (rfP j)) (decide (j=K)) (by rw [hs];exact U2d K j hK hj r) W (by rw [Q6];have:=(V5c j hj).2.2.2.1;omega));have HA:=zW ((aB w.heap.size w).alloc yQ (.cells #[.int .i64 0,.string ⟨#[]⟩,.int .i64 0] 31));clear hs ha hq;go_enter func88,ntmps88
 go_wp2_with fail
 go_loopg [32] 6 (fun gk iv wr=>∃ k:Nat,iv=.int .i64 k∧k≤K∧yK (wr=(w.alloc (.cells #[.int .i64 0,.string ⟨#[]⟩,.int .i64 0] 31)))∧6 - k≤gk)
 case atStart=>exact ⟨0,rfl,aO _,rfl,yQ⟩
 case round=>
  obtain ⟨k,rfl,hk,HW,hgk⟩:=hrel;have hl:=HW.o;subst hl;have hm:(k:Int) < 5:=yY;have x0:=U3w (j:=k) yY;obtain ⟨v0,y0,m0,ho,hn⟩:=V5c k yY;have CB:=zW (hc.o k yY);have CT:=zW (fun W=>Q2n (rfC k) W);have hd:yK (k=K→El7 1 ⟨#[rfC k]⟩ (rfP k).length w=R):=fun e=>by rw [e,he.o]
  clear hc;generalize rfS k=u at *;generalize ofL (rfP k)=pu at *;generalize (rfP k).length=nu at *;generalize rfC k=cu at *;have hr:(u.size:Int) - 1=(nu:Int):=yY;have hp:(nu:Int) < (u.size:Int):=yY;have hg:nu < u.size:=yY;have hh:(nu:Int)≤(u.size:Int):=yY;by_cases hkK:k=K
  ·rw [cR hkK] at CB;have hf:=zW (hd.o hkK);clear hd hkK;go_wp2_with (first
    | (go_at_call 136;refine (CB.o _).mono ?_;rintro e w' ⟨rfl,rfl⟩)
    | (go_at_call 137;refine (CT.o _).mono ?_;rintro e w1 ⟨rfl,hb⟩;obtain ⟨z0,z1,z2,y0,y1,y2⟩:=T3 hb;have HB:=zW (HA.o.trans (hb.mono HA.o.size));clear hb))
   refine bO (K9 rfl _ _ w.heap.size 1 0 ⟨#[cu]⟩ _ rfl rfl yU yU yU) rfl ?_;rw [←hf.o];exact ⟨rfl,V5 HB.o _ _ _⟩
  ·rw [cD hkK] at CB;go_wp2_with (go_at_call 136;refine (CB.o _).mono ?_;rintro e w' ⟨rfl,rfl⟩)
   go_roundg (5 - k)
   case measure=>omega
   case rel=>exact ⟨k+1,by go_num,yY,rfl,yY⟩
theorem Y4l (s t:fY) (r:List UInt8) (k:Int) (n:Nat) (w:World) (hs:s.data.toList=60::r) (CT:∀ W,Calls prog 135 #[.string s] W (El7 k t n W)) (hn:0 < n) (hb:U4 (Z0 t.data.toList)=false) (hts:t.size≤1000000):
 Calls prog 88 #[.string s] w (El7 k t n w):=by
 have hc:0 < s.size:=(by rw [aC,hs];simp);have ha:=at0 s 60 _ hs hc;have n60:((s[0].toNat:Int)==60)=true:=(by rw [ha];rfl);have CTT:=zW CT;have CN:=zW (fun W=>B8 t W hts);rw [show (⟨(M8 t.data.toList).toArray⟩:fY)=ofL (Z0 t.data.toList) from rfl] at CN;have CB:=zW (fun W=>Q4t (ofL (Z0 t.data.toList)) W (by simpa [ofL] using hb));have he:((n:Int)==0)=false:=(by rw [aI];omega);have HA:=zW ((aB w.heap.size w).alloc yQ (.cells #[.int .i64 0,.string ⟨#[]⟩,.int .i64 0] 31));clear hs ha CT hb;go_enter func88,ntmps88
 go_wp2_with (first
  | (go_at_call 135;refine (CTT.o _).mono ?_;rintro e w1 ⟨rfl,hb⟩;obtain ⟨z0,z1,z2,y0,y1,y2⟩:=T3 hb;have HB:=zW (HA.o.trans (hb.mono HA.o.size));have hd:w.heap.size < w1.heap.size:=bC yW hb.size;clear hb)
  | (go_at_call 36;refine (CN.o _).mono ?_;rintro e w' ⟨rfl,rfl⟩)
  | (go_at_call 51;refine (CB.o _).mono ?_;rintro e w' ⟨rfl,rfl⟩))
 refine bO (K9 rfl _ _ w.heap.size k 0 t _ rfl rfl yU yU yU) rfl ?_;refine ⟨rfl,?_⟩;exact (V5 HB.o _ _ _).alloc yV _
theorem V8q (s:fY) (r l:List UInt8) (x:Tk) (w:World) (hs:s.data.toList=r++l) (hsz:s.size≤1000000) (h:ElOk 1 r (some x)):
 Calls prog 88 #[.string s] w (El7 x.k x.t r.length w):=by
 generalize hf:(1:Int)=fmt at h;generalize ho:some x=o at h;have ha:s.size=r.length+l.length:=(by rw [aC,hs,aA]);cases h with
 | slot _ n hn=>
   injection ho with ho;subst ho;have:=V3y s (ofL n) l w (by rw [hs];simp [ofL]) (by simpa [ofL] using hn) hsz;rw [Q6] at this;have hl:(123::n++[125]:List UInt8).length=n.length+2:=yW;rw [hl];exact this
 | ch1 c hc=>
   injection ho with ho;subst ho;exact U1t s c l w hs hc
 | ref r c hr=>
   injection ho with ho;subst ho;simp only [X5l,aU,cL,eL,eX] at hr;rcases hr with ⟨rfl,rfl⟩ | ⟨rfl,rfl⟩ | ⟨rfl,rfl⟩ | ⟨rfl,rfl⟩ | ⟨rfl,rfl⟩
   ·exact X1u 0 yX s l w hs
   ·exact X1u 1 yX s l w hs
   ·exact X1u 2 yX s l w hs
   ·exact X1u 3 yX s l w hs
   ·exact X1u 4 yX s l w hs
 | opn t d ht hb=>
   injection ho with ho;subst ho;have hl:(60::t++[62]:List UInt8).length=t.length+2:=yW;have hh:s.data.toList=60::(ofL t).data.toList++62::l:=(by rw [hs];simp [ofL]);have CT:=fun W=>X2t s (ofL t) l W hh hsz (by simpa [ofL] using ht);rw [Q6] at CT;rw [hl] at ha ⊢;exact Y4l s (ofL t) _ 2 (t.length+2) w hh CT yY (by simpa [ofL] using hb) (by rw [Q6];omega)
 | cls t d ht hb=>
   injection ho with ho;subst ho;have hl:(60::47::t++[62]:List UInt8).length=t.length+3:=yW;have hh:s.data.toList=60::47::(ofL t).data.toList++62::l:=(by rw [hs];simp [ofL]);have CT:=fun W=>Z0m s (ofL t) l W hh hsz (by simpa [ofL] using ht);rw [Q6] at CT;rw [hl] at ha ⊢;have hd:Z0 t=t:=X9v t (I4 t ht 32 yW);exact Y4l s (ofL t) _ 3 (t.length+3) w hh CT yY (by rw [show (ofL t).data.toList=t by simp [ofL],hd];exact hb) (by rw [Q6];omega)
 | emp t d ht hb=>
   injection ho with ho;subst ho;have hl:(60::t++[47,62]:List UInt8).length=t.length+3:=yW;have hh:s.data.toList=60::(ofL t).data.toList++47::62::l:=(by rw [hs];simp [ofL]);have CT:=fun W=>Z0n s (ofL t) l W hh hsz (by simpa [ofL] using ht);rw [Q6] at CT;rw [hl] at ha ⊢;exact Y4l s (ofL t) _ 4 (t.length+3) w hh CT yY (by simpa [ofL] using hb) (by rw [Q6];omega)
 | ch2 c hc=>cases hf
 | esc e c he=>cases hf
 | cont b hb=>cases hf
 | ch3 c hc=>cases hf
 | two c hc=>cases hf
theorem V4z (s:fY) (r l:List UInt8) (o:Option Tk) (w:World) (hs:s.data.toList=r++l) (hsz:s.size≤1000000) (h:ElOk 2 r o) (hl:o=none→l.head? ≠some 32∧l.head? ≠some 9):
 Calls prog 89 #[.string s] w (El7 ((o.map (·.k)).getD 0) ((o.map (·.t)).getD ⟨#[]⟩) r.length w):=by
 generalize hf:(2:Int)=fmt at h;cases h with
 | slot _ n hn=>
   have:=Z9y s (ofL n) l w (by rw [hs];simp [ofL]) (by simpa [ofL] using hn) hsz;rw [Q6] at this;have hl:(123::n++[125]:List UInt8).length=n.length+2:=yW;rw [hl];exact this
 | ch2 c hc=>exact V9j s c l w hs ⟨hc.1,hc.2.2,hc.2.1⟩
 | esc e c he=>
   simp only [Z1j,aU,cL,eL,eX] at he;rcases he with ⟨rfl,rfl⟩ | ⟨rfl,rfl⟩ | ⟨rfl,rfl⟩ | ⟨rfl,rfl⟩ | ⟨rfl,rfl⟩ | ⟨rfl,rfl⟩
   ·exact Q4v 0 yX s l w hs
   ·exact Q4v 1 yX s l w hs
   ·exact Q4v 2 yX s l w hs
   ·exact Q4v 3 yX s l w hs
   ·exact Q4v 4 yX s l w hs
   ·exact Q4v 5 yX s l w hs
 | cont b hb=>exact Z9x s b l w (by rw [hs];rfl) hb (hl rfl) hsz
 | ch1 c hc=>cases hf
 | ref r c hr=>cases hf
 | opn t d ht hb=>cases hf
 | cls t d ht hb=>cases hf
 | emp t d ht hb=>cases hf
 | ch3 c hc=>cases hf
 | two c hc=>cases hf
theorem R5 (k:Int) (t:fY) (d:Int) (w:World) (b:Bool) (h:b=decide (k=2∨k=3∨k=4)):
 Calls prog 50 #[.agg #[.int .i64 k,.string t,.int .i64 d]] w fun e w'=>e=.returned (.bool b)∧Below w.heap.size w w':=by
 have HB:=zW ((aB w.heap.size w).alloc yQ (.cells #[.int .i64 k,.string t,.int .i64 d] 31));by_cases h2:k=2
 ·subst h2;obtain rfl:b=true:=(by rw [h];decide);clear h;go_enter func50,ntmps50
  go_wp2_with fail
  go_ret
  exact ⟨rfl,HB.o⟩
 ·have t2:(k==2)=false:=(by simpa using h2);by_cases h3:k=3
  ·subst h3;obtain rfl:b=true:=(by rw [h];decide);clear h;go_enter func50,ntmps50
   go_wp2_with fail
   go_ret
   exact ⟨rfl,HB.o⟩
  ·have t3:(k==3)=false:=(by simpa using h3);by_cases h4:k=4
   ·subst h4;obtain rfl:b=true:=(by rw [h];decide);clear h;go_enter func50,ntmps50
    go_wp2_with fail
    go_ret
    exact ⟨rfl,HB.o⟩
   ·have t4:(k==4)=false:=(by simpa using h4);obtain rfl:b=false:=(by rw [h];simp [h2,h3,h4]);clear h;go_enter func50,ntmps50
    go_wp2_with fail
    go_ret
    exact ⟨rfl,HB.o⟩
theorem Z2r (f:List Tk) (A:Option Addr) (c:Nat) (xk:Int) (xt:fY) (xd:Int) (w:World) (h1:RdT w (.slice A f.length c) f) (hfl:f.length≤1000000) (hw:WfI ⟨xk,xt,xd⟩)
 (htx:xk=1→xt.size≠0∧xd=0∧∀ y,f.getLast? =some y→y.k≠1) (hxs:xt.size≤1000000) (hs:∀ y∈f,y.t.size≤1000000) (hfit:∀ y∈f,Y3h y ⟨xk,xt,xd⟩):
 Calls prog 92 #[.slice A f.length c,.agg #[.int .i64 xk,.string xt,.int .i64 xd]] w fun e w'=>e=.returned (.int .i64 0)∧Below w.heap.size w w':=by
 obtain ⟨R,hx⟩:∃ R:Ending→World→Prop,yK (R=fun e w'=>e=.returned (.int .i64 0)∧Below w.heap.size w w'):=⟨_,rfl⟩;rw [←hx.o];have hf:yK ((w.alloc (.cells #[.int .i64 xk,.string xt,.int .i64 xd] 31)).heap[w.heap.size]? =some (.cells #[.int .i64 xk,.string xt,.int .i64 xd] 31)):=aY;have hm:=zW ((aB w.heap.size w).alloc yQ (.cells #[.int .i64 xk,.string xt,.int .i64 xd] 31));have H1:yK (RdT (w.alloc (.cells #[.int .i64 xk,.string xt,.int .i64 xd] 31)) (.slice A f.length c) f):=RdE.alloc h1 _;have he:w.heap.size < (w.alloc (.cells #[.int .i64 xk,.string xt,.int .i64 xd] 31)).heap.size:=yW;have hC:=zW hs;have HF:=zW hfit;have CN:=zW (fun w=>Q3q xt w (by unfold maxLen;omega));obtain ⟨p,hp⟩:∃ p,yK (p=w.heap.size):=⟨_,rfl⟩;have hz:∀ (G:World) (b:Bool),True:=fun _ _=>trivial;clear h1 hs hfit hz;rcases hw with hk | ⟨hk,hnm,hd⟩ | ⟨hk,hct,hd1,hd2⟩ | ⟨hk,hnm,hd1,hd2⟩
 ·have hk':xk=1:=hk;subst hk';obtain ⟨a1,a2,a3⟩:=htx rfl;subst a2;have hr:(xt.toList==[])=false:=by
   rw [aI,Y7];intro h;exact a1 (by rw [aC,h];rfl)
  clear a1 htx;rcases bS f with rfl | ⟨f2,y,rfl⟩
  ·go_enter func92,ntmps92
   go_wp2_with fail
   first | go_ret | skip
   rw [hx.o];exact ⟨rfl,hm.o⟩
  ·rw [bN] at *;have hy:=a3 y yW;obtain ⟨b,o,hA,hn,p0,p1,p2⟩:=RdT.at_ H1.o f2.length yW;subst hA;have hG:(f2++[y])[f2.length]'yW=y:=yW;rw [hG] at p0;have hJ:(y.k==1)=false:=(by simpa using hy);have hl:(f2++[y]).length=f2.length+1:=yW;rw [hl] at hfl ⊢;clear hy a3 p1 p2 hG hl;generalize f2.length=n at *;have hI:(((n+1:Nat):Int) - 1)=(n:Int):=yY;have hH:(0:Int) < ((n+1:Nat):Int):=yY;go_enter func92,ntmps92
   go_wp2_with fail
   first | go_ret | skip
   rw [hx.o];exact ⟨rfl,hm.o⟩
 ·have hk':xk=5:=hk;have hd':xd=0:=hd;subst hk' hd';rw [show U3 xt.data.toList=true from hnm] at CN;clear htx hnm;go_enter func92,ntmps92
  go_wp2_with (go_at_call 139;refine (CN.o _).mono ?_;rintro e w' ⟨rfl,rfl⟩)
  first | go_ret | skip
  rw [hx.o];exact ⟨rfl,hm.o⟩
 ·have hd1':(1:Int)≤xd:=hd1;have hd2':xd≤999:=hd2;have CC:=zW (fun w=>X4h xt w hct rfl);clear htx hct CN hd1 hd2;have u1:¬ xd < 1:=yY;have u2:¬ (999:Int) < xd:=yY;rcases hk with hk | hk
  ·have hk':xk=2:=hk;subst hk';go_enter func92,ntmps92
   go_upto_region 1 with fail
   rw [←hp.o] at hf he ⊢;generalize w.alloc (.cells #[.int .i64 2,.string xt,.int .i64 xd] 31)=w0 at hf hm H1 he ⊢;obtain ⟨x0,x1,x2,_⟩:=bx3 hf.o;go_wp2_with (go_at_call 140;refine (CC.o _).mono ?_;rintro e w' ⟨rfl,rfl⟩)
   go_loopg [80] f.length (fun gk iv wr=>∃ i:Nat,iv=.int .i64 i∧i≤f.length∧yK (Below w0.heap.size w0 wr)∧f.length - i≤gk)
   case atStart=>exact ⟨0,rfl,aO _,aB _ _,yQ⟩
   case round=>
    obtain ⟨i,rfl,hi,HB,hgk⟩:=hrel;by_cases hlt:i < f.length
    ·have hF:(i:Int) < (f.length:Int):=yY;have hE:(0:Int)≤(i:Int):=yY;obtain ⟨b,o,hA,hn,p0,p1,p2⟩:=RdT.at_ H1.o i hlt;subst hA;have hc:=aL hlt;have hv:=hC.o _ hc;have hg:=HF.o _ hc;clear hc;generalize f[i]=y at p0 p1 p2 hv hg;obtain ⟨yk,yt,yd⟩:=y;simp only at p0 p1 p2 hv;have q0:=(HB.o.cell (p:=⟨b,o+i * 3,none⟩) hn).trans p0;have q1:=(HB.o.cell (p:=⟨b,o+i * 3+1,none⟩) hn).trans p1;have q2:=(HB.o.cell (p:=⟨b,o+i * 3+2,none⟩) hn).trans p2;clear p0 p1 p2;have hB:=HB.o.size;have HY:yK ((wr.alloc (.cells #[.int .i64 yk,.string yt,.int .i64 yd] 31)).heap[wr.heap.size]? =some (.cells #[.int .i64 yk,.string yt,.int .i64 yd] 31)):=aY;have hb:=zW (HB.o.alloc hB (.cells #[.int .i64 yk,.string yt,.int .i64 yd] 31));have hh:wr.heap.size < (wr.alloc (.cells #[.int .i64 yk,.string yt,.int .i64 yd] 31)).heap.size:=yW;obtain ⟨q,hq⟩:∃ q,yK (q=wr.heap.size):=⟨_,rfl⟩;go_upto_region 22 with fail
     rw [←hq.o] at HY hh ⊢;generalize wr.alloc (.cells #[.int .i64 yk,.string yt,.int .i64 yd] 31)=w1 at HY hb hh ⊢;obtain ⟨y0,y1,y2,_⟩:=bx3 HY.o;obtain ⟨bt,ho⟩:∃ bt,bt=decide (yk=2∨yk=3∨yk=4):=⟨_,rfl⟩;have CT:=zW (R5 yk yt yd w1 bt ho);have hu:=zW ho;clear ho;cases bt with
     | false=>
       go_wp2_with (go_at_call 50;refine (CT.o).mono ?_;rintro e w2 ⟨rfl,ha⟩;obtain ⟨v0,v1,v2,_⟩:=bx3 ((ha.block q hh).trans HY.o);obtain ⟨x0,x1,x2,_⟩:=bx3 ((ha.block p (bC he hb.o.size)).trans ((hb.o.block p he).trans hf.o));have hj:=zW (hb.o.trans (ha.mono hb.o.size));clear ha)
       go_roundg (f.length - (i+1))
       case measure=>omega
       case rel=>exact ⟨i+1,rfl,hlt,hj.o,yQ⟩
     | true=>
       have ht:yk=2∨yk=3∨yk=4:=fX hu.o.symm;clear hu;have hr:yd≠xd:=fun e=>by have h3:(2:Int)=3:=(hg ht (.inl rfl) e).1;omega
       have t1:(yd != xd)=true:=(by simpa using hr);clear ht hg hr;go_wp2_with (go_at_call 50;refine (CT.o).mono ?_;rintro e w2 ⟨rfl,ha⟩;obtain ⟨v0,v1,v2,_⟩:=bx3 ((ha.block q hh).trans HY.o);obtain ⟨x0,x1,x2,_⟩:=bx3 ((ha.block p (bC he hb.o.size)).trans ((hb.o.block p he).trans hf.o));have hj:=zW (hb.o.trans (ha.mono hb.o.size));clear ha)
       go_roundg (f.length - (i+1))
       case measure=>omega
       case rel=>exact ⟨i+1,rfl,hlt,hj.o,yQ⟩
    ·obtain rfl:i=f.length:=yY;go_wp2_with fail
     first | go_ret | skip
     rw [hx.o];exact ⟨rfl,hm.o.trans (HB.o.mono hm.o.size)⟩
  ·have hk':xk=4:=hk;subst hk';go_enter func92,ntmps92
   go_upto_region 1 with fail
   rw [←hp.o] at hf he ⊢;generalize w.alloc (.cells #[.int .i64 4,.string xt,.int .i64 xd] 31)=w0 at hf hm H1 he ⊢;obtain ⟨x0,x1,x2,_⟩:=bx3 hf.o;go_wp2_with (go_at_call 140;refine (CC.o _).mono ?_;rintro e w' ⟨rfl,rfl⟩)
   go_loopg [80] f.length (fun gk iv wr=>∃ i:Nat,iv=.int .i64 i∧i≤f.length∧yK (Below w0.heap.size w0 wr)∧f.length - i≤gk)
   case atStart=>exact ⟨0,rfl,aO _,aB _ _,yQ⟩
   case round=>
    obtain ⟨i,rfl,hi,HB,hgk⟩:=hrel;by_cases hlt:i < f.length
    ·have hF:(i:Int) < (f.length:Int):=yY;have hE:(0:Int)≤(i:Int):=yY;obtain ⟨b,o,hA,hn,p0,p1,p2⟩:=RdT.at_ H1.o i hlt;subst hA;have hc:=aL hlt;have hv:=hC.o _ hc;have hg:=HF.o _ hc;clear hc;generalize f[i]=y at p0 p1 p2 hv hg;obtain ⟨yk,yt,yd⟩:=y;simp only at p0 p1 p2 hv;have q0:=(HB.o.cell (p:=⟨b,o+i * 3,none⟩) hn).trans p0;have q1:=(HB.o.cell (p:=⟨b,o+i * 3+1,none⟩) hn).trans p1;have q2:=(HB.o.cell (p:=⟨b,o+i * 3+2,none⟩) hn).trans p2;clear p0 p1 p2;have hB:=HB.o.size;have HY:yK ((wr.alloc (.cells #[.int .i64 yk,.string yt,.int .i64 yd] 31)).heap[wr.heap.size]? =some (.cells #[.int .i64 yk,.string yt,.int .i64 yd] 31)):=aY;have hb:=zW (HB.o.alloc hB (.cells #[.int .i64 yk,.string yt,.int .i64 yd] 31));have hh:wr.heap.size < (wr.alloc (.cells #[.int .i64 yk,.string yt,.int .i64 yd] 31)).heap.size:=yW;obtain ⟨q,hq⟩:∃ q,yK (q=wr.heap.size):=⟨_,rfl⟩;go_upto_region 22 with fail
     rw [←hq.o] at HY hh ⊢;generalize wr.alloc (.cells #[.int .i64 yk,.string yt,.int .i64 yd] 31)=w1 at HY hb hh ⊢;obtain ⟨y0,y1,y2,_⟩:=bx3 HY.o;obtain ⟨bt,ho⟩:∃ bt,bt=decide (yk=2∨yk=3∨yk=4):=⟨_,rfl⟩;have CT:=zW (R5 yk yt yd w1 bt ho);have hu:=zW ho;clear ho;cases bt with
     | false=>
       go_wp2_with (go_at_call 50;refine (CT.o).mono ?_;rintro e w2 ⟨rfl,ha⟩;obtain ⟨v0,v1,v2,_⟩:=bx3 ((ha.block q hh).trans HY.o);obtain ⟨x0,x1,x2,_⟩:=bx3 ((ha.block p (bC he hb.o.size)).trans ((hb.o.block p he).trans hf.o));have hj:=zW (hb.o.trans (ha.mono hb.o.size));clear ha)
       go_roundg (f.length - (i+1))
       case measure=>omega
       case rel=>exact ⟨i+1,rfl,hlt,hj.o,yQ⟩
     | true=>
       have ht:yk=2∨yk=3∨yk=4:=fX hu.o.symm;clear hu;have hr:yd≠xd:=fun e=>by have h3:(4:Int)=3:=(hg ht (.inr (.inr rfl)) e).1;omega
       have t1:(yd != xd)=true:=(by simpa using hr);clear ht hg hr;go_wp2_with (go_at_call 50;refine (CT.o).mono ?_;rintro e w2 ⟨rfl,ha⟩;obtain ⟨v0,v1,v2,_⟩:=bx3 ((ha.block q hh).trans HY.o);obtain ⟨x0,x1,x2,_⟩:=bx3 ((ha.block p (bC he hb.o.size)).trans ((hb.o.block p he).trans hf.o));have hj:=zW (hb.o.trans (ha.mono hb.o.size));clear ha)
       go_roundg (f.length - (i+1))
       case measure=>omega
       case rel=>exact ⟨i+1,rfl,hlt,hj.o,yQ⟩
    ·obtain rfl:i=f.length:=yY;go_wp2_with fail
     first | go_ret | skip
     rw [hx.o];exact ⟨rfl,hm.o.trans (HB.o.mono hm.o.size)⟩
 ·have hk':xk=3:=hk;subst hk';have hd1':(1:Int)≤xd:=hd1;have hd2':xd≤999:=hd2;rw [show U3 xt.data.toList=true from hnm] at CN;clear htx hnm hd1 hd2 hk;have u1:¬ xd < 1:=yY;have u2:¬ (999:Int) < xd:=yY;go_enter func92,ntmps92
  go_upto_region 1 with fail
  rw [←hp.o] at hf he ⊢;generalize w.alloc (.cells #[.int .i64 3,.string xt,.int .i64 xd] 31)=w0 at hf hm H1 he ⊢;obtain ⟨x0,x1,x2,_⟩:=bx3 hf.o;go_wp2_with (go_at_call 139;refine (CN.o _).mono ?_;rintro e w' ⟨rfl,rfl⟩)
  go_loopg [80] f.length (fun gk iv wr=>∃ i:Nat,iv=.int .i64 i∧i≤f.length∧yK (Below w0.heap.size w0 wr)∧f.length - i≤gk)
  case atStart=>exact ⟨0,rfl,aO _,aB _ _,yQ⟩
  case round=>
   obtain ⟨i,rfl,hi,HB,hgk⟩:=hrel;by_cases hlt:i < f.length
   ·have hF:(i:Int) < (f.length:Int):=yY;have hE:(0:Int)≤(i:Int):=yY;obtain ⟨b,o,hA,hn,p0,p1,p2⟩:=RdT.at_ H1.o i hlt;subst hA;have hc:=aL hlt;have hv:=hC.o _ hc;have hg:=HF.o _ hc;clear hc;generalize f[i]=y at p0 p1 p2 hv hg;obtain ⟨yk,yt,yd⟩:=y;simp only at p0 p1 p2 hv;have q0:=(HB.o.cell (p:=⟨b,o+i * 3,none⟩) hn).trans p0;have q1:=(HB.o.cell (p:=⟨b,o+i * 3+1,none⟩) hn).trans p1;have q2:=(HB.o.cell (p:=⟨b,o+i * 3+2,none⟩) hn).trans p2;clear p0 p1 p2;have hB:=HB.o.size;have HY:yK ((wr.alloc (.cells #[.int .i64 yk,.string yt,.int .i64 yd] 31)).heap[wr.heap.size]? =some (.cells #[.int .i64 yk,.string yt,.int .i64 yd] 31)):=aY;have hb:=zW (HB.o.alloc hB (.cells #[.int .i64 yk,.string yt,.int .i64 yd] 31));have hh:wr.heap.size < (wr.alloc (.cells #[.int .i64 yk,.string yt,.int .i64 yd] 31)).heap.size:=yW;obtain ⟨q,hq⟩:∃ q,yK (q=wr.heap.size):=⟨_,rfl⟩;go_upto_region 22 with fail
    rw [←hq.o] at HY hh ⊢;generalize wr.alloc (.cells #[.int .i64 yk,.string yt,.int .i64 yd] 31)=w1 at HY hb hh ⊢;obtain ⟨y0,y1,y2,_⟩:=bx3 HY.o;obtain ⟨bt,ho⟩:∃ bt,bt=decide (yk=2∨yk=3∨yk=4):=⟨_,rfl⟩;have CT:=zW (R5 yk yt yd w1 bt ho);have hu:=zW ho;clear ho;cases bt with
    | false=>
      go_wp2_with (go_at_call 50;refine (CT.o).mono ?_;rintro e w2 ⟨rfl,ha⟩;obtain ⟨v0,v1,v2,_⟩:=bx3 ((ha.block q hh).trans HY.o);obtain ⟨x0,x1,x2,_⟩:=bx3 ((ha.block p (bC he hb.o.size)).trans ((hb.o.block p he).trans hf.o));have hj:=zW (hb.o.trans (ha.mono hb.o.size));clear ha)
      go_roundg (f.length - (i+1))
      case measure=>omega
      case rel=>exact ⟨i+1,rfl,hlt,hj.o,yQ⟩
    | true=>
      have ht:yk=2∨yk=3∨yk=4:=fX hu.o.symm;clear hu;by_cases hr:yd=xd
      ·have hg:=hg ht (.inr (.inl rfl)) hr;have h2:yk=2:=hg.2.1;have hD:yK (J8 yt=xt):=hg.2.2;subst h2 hr;have t1:(yd != yd)=false:=yW;have CNY:=zW (fun w=>B8 yt w yY);change yK (∀ w,Calls prog 36 #[.string yt] w fun e w'=>e=.returned (.string (J8 yt))∧w=w') at CNY
       rw [hD.o] at CNY;have t2:(xt.toList != xt.toList)=false:=yW;clear ht hg hD;go_upto_region 23 with (go_at_call 50;refine (CT.o).mono ?_;rintro e w2 ⟨rfl,ha⟩;obtain ⟨v0,v1,v2,_⟩:=bx3 ((ha.block q hh).trans HY.o);obtain ⟨x0,x1,x2,_⟩:=bx3 ((ha.block p (bC he hb.o.size)).trans ((hb.o.block p he).trans hf.o));have hj:=zW (hb.o.trans (ha.mono hb.o.size));clear ha)
       go_quiet ((go_at_call 36;exact X9b (CNY.o _)))
       go_wp2_with fail
       go_roundg (f.length - (i+1))
       case measure=>omega
       case rel=>exact ⟨i+1,rfl,hlt,Q1 hj.o _,yQ⟩
      ·have t1:(yd != xd)=true:=(by simpa using hr);clear ht hg hr;go_wp2_with (go_at_call 50;refine (CT.o).mono ?_;rintro e w2 ⟨rfl,ha⟩;obtain ⟨v0,v1,v2,_⟩:=bx3 ((ha.block q hh).trans HY.o);obtain ⟨x0,x1,x2,_⟩:=bx3 ((ha.block p (bC he hb.o.size)).trans ((hb.o.block p he).trans hf.o));have hj:=zW (hb.o.trans (ha.mono hb.o.size));clear ha)
       go_roundg (f.length - (i+1))
       case measure=>omega
       case rel=>exact ⟨i+1,rfl,hlt,hj.o,yQ⟩
   ·obtain rfl:i=f.length:=yY;go_wp2_with fail
    first | go_ret | skip
    rw [hx.o];exact ⟨rfl,hm.o.trans (HB.o.mono hm.o.size)⟩
theorem H6 (a b:List UInt8):ofL a++ofL b=ofL (a++b):=by
 apply cB;apply bX.1;simp [ofL]
theorem X1d (fmt:Int) (c:UInt8):(N5 fmt c).length≤5:=by
 unfold N5;repeat' split
 all_goals simp
theorem Q6s (fmt:Int):∀ l:List UInt8,(l.flatMap (N5 fmt)).length≤5 * l.length
 | []=>yQ
 | c::l=>by
   have h1:=X1d fmt c;have h2:=Q6s fmt l;rw [dM,aA,aG];omega
theorem Q2s (fmt:Int) (x:Tk):(V6 fmt x).length≤5 * x.t.size+3:=by
 have h:=Q6s fmt x.t.data.toList;rw [←aC] at h;have hs:=aC x.t;unfold V6;split
 ·omega
 ·split
  ·rw [aA,aG,←hs];simp;omega
  ·split
   ·rw [aA,aG,aG,←hs];simp;omega
   ·split
    ·rw [aA,aG,←hs];simp;omega
    ·rw [aA,aG,←hs];simp;omega
theorem U0g (x:Tk) (h:WfI x) (h1:x.k=1→x.t.size≤1024):x.t.size≤1024:=by
 have hs:=aC x.t;have nm:U3 x.t.data.toList=true→x.t.size≤1024:=fun hn=>by
  obtain ⟨c,r,e,_,hl,_⟩:=L3 _ hn;rw [hs,e,aG];omega
 have ct:N9 x.t.data.toList=true→x.t.size≤1024:=fun hc=>by
  have:=(J0 _ hc).1;omega
 rcases h with h | ⟨_,h,_⟩ | ⟨_,h,_⟩ | ⟨_,h,_⟩
 ·exact h1 h
 ·exact nm h
 ·exact ct h
 ·exact nm h
theorem V3q (f:List Tk) (x:Tk) (h:x∈f) (hk:x.k=1):x.t.size≤X3 f:=by
 induction f with
 | nil=>simp at h
 | cons y f ih=>
   show _≤wdI y+X3 f;rcases aU.1 h with rfl | h
   ·unfold wdI;rw [aK hk];omega
   ·have:=ih h;omega
theorem Q8a (f:List Tk) (h:ValF f):∀ x∈f,x.t.size≤1024:=fun x hx=>U0g x (h.wf x hx) fun hk=>aP (V3q f x hx hk) h.pos
theorem Q8g (fmt:Int) (f:List Tk) (i:Nat) (h:i < f.length):V3 fmt (f.take (i+1))=V3 fmt (f.take i)++V6 fmt f[i]:=by
 rw [aH h,Y6x];simp [V3]
theorem Q8u (ps:Prs) (fmt:Int) (h:∀ c,Q7p ps c=N5 fmt c) (l:List UInt8):O1 ps l=l.flatMap (N5 fmt):=by
 unfold O1;congr 1;funext c;exact h c
theorem X1x (w:World):(callFunc 204 #[]).run prog w=.ok (.value (.tuple #[])) w:=run_call_mark0 func204 yZ yZ yZ .disable yZ w
theorem X5i (w:World):(callFunc 206 #[]).run prog w=.ok (.value (.tuple #[])) w:=run_call_mark0 func206 yZ yZ yZ .enable yZ w
theorem Y4q (a:Addr) (w:World):(callFunc 207 #[.pointer (some a)]).run prog w=.ok (.value (.tuple #[])) w:=run_call_marked func207 yZ yZ yZ .acquire yZ a w
theorem X1y (a:Addr) (w:World):(callFunc 209 #[.pointer (some a)]).run prog w=.ok (.value (.tuple #[])) w:=run_call_marked func209 yZ yZ yZ .releaseMerge yZ a w
theorem Z2f (a:Addr) (x:Value) (u:FrameMode) (w:World) (hc:w.cell? a=some x) (hz:w.frozen? a=false):
 CallsD prog 160 #[.pointer (some a),.bool true] u w fun e u' w'=>u'=u∧(e=.returned (.tuple #[])∧w'=w.drew.setCell a (.int .u32 1)):=by
 have hc':w.drew.cell? a=some x:=yU;have hz':w.drew.frozen? a=false:=yU;have ha:=run_call_store (P:=prog) func183 yZ yZ yZ yZ (k:=.u32) (y:=1) hc' hz';go_enter_d func160,ntmps160
 go_wp2
 go_region_calls
 all_goals (go_end0;exact ⟨rfl,rfl⟩)
theorem Y8o (a:Addr) (u:FrameMode) (w:World) (hc:w.cell? a=some (.int .i32 1)) (hz:w.frozen? a=false):
 CallsD prog 159 #[.pointer (some a)] u w fun e u' w'=>u'=u∧(e=.returned (.tuple #[])∧w'=w.setCell a (.int .i32 0)):=by
 have hd:=X1x;have he:=X5i;have hr:=X1y;have ha:=run_call_add (P:=prog) func210 yZ yZ yZ .i32 yZ (y:=-1) (s:=0) hc hz (by simp [go_sem];rfl);have hb:=run_convert_to_unsafe (P:=prog) (src:=281) (dst:=203) underlying281 underlying203 yZ hc;go_enter_d func159,ntmps159
 go_wp2
 go_end0
 go_wp2
 go_end0
 exact ⟨rfl,rfl⟩
theorem Z9f (a:Addr) (w:World) (hc:w.cell? a=some (.int .i32 0)) (hz:w.frozen? a=false):
 Calls prog 158 #[.pointer (some a)] w fun e w'=>e=.returned (.tuple #[])∧w'=w.setCell a (.int .i32 1):=by
 have hd:=X1x;have he:=X5i;have ha:=Y4q;have hb:=run_call_cas_hit (P:=prog) func205 yZ yZ yZ .i32 yZ (y:=1) hc hz;have hc':(w.setCell a (.int .i32 1)).cell? a=some (.int .i32 1):=World.cell?_setCell_same w a _ hc;have hf:=run_convert_to_unsafe (P:=prog) (src:=281) (dst:=203) underlying281 underlying203 yZ hc';go_enter func158,ntmps158
 go_wp2
 first | go_end0 | (simp only [Exit.inBlock,Exit.then];refine bO (eU rfl _ _ _) rfl ?_) | refine bO (eU rfl _ _ _) rfl ?_
 go_wp2
 go_end0
 exact ⟨rfl,rfl⟩
theorem BsB.mod {B R:Nat} {w w':World} {Q:Nat} {ps:Prs} {ks:List UInt8} {cs:List Value} {tv:Value} (h:BsB B w Q ps ks cs tv) (hm:Mod (fun k=>k=R) w w') (hR:R < B) {c:Array Value} (hr:w.heap[R]? =some (.cells c 161)):BsB B w' Q ps ks cs tv:=by
 refine ⟨(hm.block Q h.lt fun e=>?_).trans h.box,h.len,fun b=>?_,h.tov,hm.own h.own fun k hk e=>by have:=(h.own.lt k hk).1;omega⟩
 ·have:=h.box;rw [show Q=R from e,hr] at this;injection this with this;injection this with _ e2 _;revert e2
  decide
 ·obtain ⟨v,h1,h2,h3⟩:=h.at_ b;refine ⟨v,h1,h2,fun r hx=>(h3 r hx).keep fun g cur fr hg=>hm.block g (aN.1 hg).1 fun e=>?_⟩;rw [show g=R from e,hr] at hg;injection hg with hg;injection hg with _ e2 _;revert e2
  decide
theorem V4g {B R:Nat} {w w':World} {v:Value} {l:List fY} (h:OwnE 9 Q9h 1 w B v l) (hm:Mod (fun k=>k=R) w w') {c:Array Value} (hr:w.heap[R]? =some (.cells c 161)):OwnE 9 Q9h 1 w' B v l:=
 hm.own h fun k hk e=>Y1 h hr yX k hk e
def rpC (d0 d1 z x ov:Value):Obj:=.cells #[d0,d1,z,x,ov] 161
def ifB (Q:Nat):Value:=.iface 240 (.pointer (some ⟨Q,0,none⟩))
def RpB (w:World) (R:Nat) (ps:Prs) (d0 d1:Value):Prop:=∃ z Q cs tv B,R < B∧w.heap[R]? =some (rpC d0 d1 z (ifB Q) (.slice none 0 0))∧BsB B w Q ps (ps.map (·.1)).reverse cs tv
def RpF (w:World) (R:Nat) (ps:Prs) (d0 d1:Value):Prop:=∃ z ov B,w.heap[R]? =some (rpC d0 d1 z .nilIface ov)∧OwnE 9 Q9h 1 w B ov (L7 ps)
def RpIn (w:World) (R:Nat) (ps:Prs):Prop:=RpF w R ps (.int .u32 0) (.int .i32 0)∨RpB w R ps (.int .u32 1) (.int .i32 0)
theorem RpF.lt {w:World} {R:Nat} {ps:Prs} {d0 d1:Value} (h:RpF w R ps d0 d1):R < w.heap.size:=by
 obtain ⟨_,_,_,h,_⟩:=h;exact (aN.1 h).1
theorem RpB.lt {w:World} {R:Nat} {ps:Prs} {d0 d1:Value} (h:RpB w R ps d0 d1):R < w.heap.size:=by
 obtain ⟨_,_,_,_,_,_,h,_⟩:=h;exact (aN.1 h).1
theorem RpF.below {w w':World} {R:Nat} {ps:Prs} {d0 d1:Value} (h:RpF w R ps d0 d1) (hb:Below w.heap.size w w'):RpF w' R ps d0 d1:=by
 have hl:=h.lt;obtain ⟨z,ov,B,h1,h2⟩:=h;exact ⟨z,ov,B,(hb.block R hl).trans h1,(Mod.of_below hb).own h2 fun _ _ hf=>hf⟩
theorem RpB.below {w w':World} {R:Nat} {ps:Prs} {d0 d1:Value} (h:RpB w R ps d0 d1) (hb:Below w.heap.size w w'):RpB w' R ps d0 d1:=by
 have hl:=h.lt;obtain ⟨z,Q,cs,tv,B,h0,h1,h2⟩:=h;exact ⟨z,Q,cs,tv,B,h0,(hb.block R hl).trans h1,h2.below hb⟩
theorem RpIn.below {w w':World} {R:Nat} {ps:Prs} (h:RpIn w R ps) (hb:Below w.heap.size w w'):RpIn w' R ps:=h.imp (fun h=>h.below hb) (fun h=>h.below hb)
theorem RpF.set {w:World} {R:Nat} {ps:Prs} {d0 d1:Value} (h:RpF w R ps d0 d1) (v:Value):RpF (w.setCell ⟨R,1,none⟩ v) R ps d0 v:=by
 obtain ⟨z,ov,B,h1,h2⟩:=h;exact ⟨z,ov,B,by rw [D0 h1];rfl,V4g h2 (Mod.set w R 1 v) h1⟩
theorem RpB.set0 {w:World} {R:Nat} {ps:Prs} {d0 d1:Value} (h:RpB w R ps d0 d1) (v:Value):RpB (w.setCell ⟨R,0,none⟩ v) R ps v d1:=by
 obtain ⟨z,Q,cs,tv,B,h0,h1,h2⟩:=h;exact ⟨z,Q,cs,tv,B,h0,by rw [D0 h1];rfl,h2.mod (Mod.set w R 0 v) h0 h1⟩
theorem RpB.set1 {w:World} {R:Nat} {ps:Prs} {d0 d1:Value} (h:RpB w R ps d0 d1) (v:Value):RpB (w.setCell ⟨R,1,none⟩ v) R ps d0 v:=by
 obtain ⟨z,Q,cs,tv,B,h0,h1,h2⟩:=h;exact ⟨z,Q,cs,tv,B,h0,by rw [D0 h1];rfl,h2.mod (Mod.set w R 1 v) h0 h1⟩
theorem Y0m (R:Nat) (ps:Prs) (d0 d1:Value) (w:World) (h:RpF w R ps d0 d1) (h2:2≤ps.length) (h10:ps.length≤10) (hp:Q6f ps):
 Calls prog 79 #[.pointer (some ⟨R,0,none⟩)] w (fun e w'=>e=.returned (.tuple #[])∧RpB w' R ps d0 d1∧Mod (fun k=>k=R) w w'):=by
 have hl:=h.lt;obtain ⟨z,ov,B,h1,ho⟩:=h;have HC:=zW (Z7i R ps d0 d1 z ov w h1 (OwnE.rd (fun _=>rfl) ho) h2 h10 hp);have H1:=zW h1;clear h1 ho h2 h10 hp;go_enter func79,ntmps79
 go_wp2_with fail
 refine (HC.o).mono ?_;rintro e w1 ⟨Q,cs,tv,rfl,hbs,hw1⟩;have he:=zW hbs;have hg:=zW hw1;have ha:yK (w1.heap[R]? =some (.cells [d0,d1,z,.nilIface,ov].toArray 161)):=(hw1.block R hl).trans H1.o;have q3:=Z9 ha.o 3 rfl;have f3:=Y6 ha.o 3;have hb:yK ((w1.setCell ⟨R,3,none⟩ (ifB Q)).heap[R]? =some (.cells [d0,d1,z,ifB Q,ov].toArray 161)):=by
  show _=_;rw [D0 ha.o];rfl
 have q4:=Z9 hb.o 4 rfl;have f4:=Y6 hb.o 4;unfold ifB at q4 f4;clear hbs hw1;go_wp2_with fail
 refine fS (eU rfl _ _ _) rfl ?_;have hc:=Mod.set w1 R 3 (ifB Q);have hd:=Mod.set (w1.setCell ⟨R,3,none⟩ (ifB Q)) R 4 (.slice none 0 0);refine ⟨rfl,⟨z,Q,cs,tv,w.heap.size,hl,?_,?_⟩,?_⟩
 ·show ((w1.setCell ⟨R,3,none⟩ (ifB Q)).setCell ⟨R,4,none⟩ (.slice none 0 0)).heap[R]? =_;rw [D0 hb.o];rfl
 ·exact (he.o.mod hc hl ha.o).mod hd hl hb.o
 ·exact (((Mod.of_below hg.o).weak (T:=fun k=>k=R) fun _ hf _=>hf.elim).trans hc fun i hi _=>hi).trans hd fun i hi _=>hi
theorem Z9g (R:Nat) (ps:Prs) (w:World) (h:RpF w R ps (.int .u32 0) (.int .i32 0)) (h2:2≤ps.length) (h10:ps.length≤10) (hp:Q6f ps):
 Calls prog 118 #[.pointer (some ⟨R,0,none⟩),.func (.func 79) #[.pointer (some ⟨R,0,none⟩)] #[]] w fun e w'=>e=.returned (.tuple #[])∧RpB w' R ps (.int .u32 1) (.int .i32 0)∧Mod (fun k=>k=R) w w':=by
 have hg:=Mod.set w R 1 (.int .i32 1);have he:=h.set (.int .i32 1);have HC:=zW (Y0m R ps (.int .u32 0) (.int .i32 1) _ he h2 h10 hp);obtain ⟨z1,ov1,B1,hj,_⟩:=he;obtain ⟨z,ov,B,hr,ho⟩:=h;have c0:=Z9 (l:=[.int .u32 0,.int .i32 1,z1,.nilIface,ov1]) hj 0 rfl;have k1:=Z9 (l:=[.int .u32 0,.int .i32 0,z,.nilIface,ov]) hr 1 rfl;have f1:=Y6 hr 1;have hl:=run_call_load (P:=prog) func157 yZ yZ yZ .u32 yZ (w:=w.setCell ⟨R,1,none⟩ (.int .i32 1)) (a:=⟨R,0,none⟩) (x:=0) c0;have ht:∀ (x:Bool) (w:World),(Op.unary .not (.bool x)).run prog w=.ok (.bool (!x)) w:=fun _ _=>rfl;have hn:=zW hg;clear hg hr hj ho;go_enter_defers func118,ntmps118
 go_wp2_with (first
  | (go_at_call 158;refine (Z9f ⟨R,1,none⟩ _ k1 f1).mono ?_;rintro e w' ⟨rfl,rfl⟩)
  | (go_at_call 117;go_in)
  | (go_at_call 79;refine (HC.o).mono ?_;rintro e w2 ⟨rfl,hf,hh⟩;have hd:=zW hf;have hq:=zW hh;clear hf hh))
 have hb:=hd.o;obtain ⟨z2,Q,cs,tv,B2,hu,hk,hv⟩:=hb;have e0:=Z9 (l:=[.int .u32 0,.int .i32 1,z2,ifB Q,.slice none 0 0]) hk 0 rfl;have g0:=Y6 hk 0;have HS:=zW ((hd.o.below ((aB _ w2).drew)).set0 (.int .u32 1));have hs:=HS.o;obtain ⟨z3,Q3,cs3,tv3,B3,_,hm,_⟩:=hs;have e1:=Z9 (l:=[.int .u32 1,.int .i32 1,z3,ifB Q3,.slice none 0 0]) hm 1 rfl;have g1:=Y6 hm 1;refine leaves_cons (f:=160) (args:=#[.pointer (some ⟨R,0,none⟩),.bool true]) yW (by simp [go_sem]) ?_;refine (Z2f ⟨R,0,none⟩ _ .returning _ e0 g0).mono ?_;rintro e u' w'' ⟨rfl,rfl,rfl⟩;refine leaves_cons (f:=159) (args:=#[.pointer (some ⟨R,1,none⟩)]) (by simp [settle]) (by simp [go_sem]) ?_;refine (Y8o ⟨R,1,none⟩ _ _ (by exact e1) (by exact g1)).mono ?_;rintro e u' w'' ⟨rfl,rfl,rfl⟩;have ha:RpB ((w2.drew.setCell ⟨R,0,none⟩ (.int .u32 1)).setCell ⟨R,1,none⟩ (.int .i32 0)) R ps (.int .u32 1) (.int .i32 0):=HS.o.set1 (.int .i32 0);have hc:Mod (fun k=>k=R) w ((w2.drew.setCell ⟨R,0,none⟩ (.int .u32 1)).setCell ⟨R,1,none⟩ (.int .i32 0)):=
  ((((hn.o.trans hq.o fun i hi _=>hi).drew).trans (Mod.set w2.drew R 0 (.int .u32 1)) fun i hi _=>hi).trans (Mod.set _ R 1 (.int .i32 0)) fun i hi _=>hi)
 simp [Leaves,settle,results,Tryz.results118];exact ⟨ha,hc⟩
theorem V8s (R:Nat) (ps:Prs) (w:World) (h:RpIn w R ps) (h2:2≤ps.length) (h10:ps.length≤10) (hp:Q6f ps):
 Calls prog 78 #[.pointer (some ⟨R,0,none⟩),.func (.func 79) #[.pointer (some ⟨R,0,none⟩)] #[]] w fun e w'=>e=.returned (.tuple #[])∧RpB w' R ps (.int .u32 1) (.int .i32 0)∧Mod (fun k=>k=R) w w':=by
 have he:∀ (x:Bool) (w:World),(Op.unary .not (.bool x)).run prog w=.ok (.bool (!x)) w:=fun _ _=>rfl;rcases h with h | h
 ·have HC:=zW (Z9g R ps w h h2 h10 hp);obtain ⟨z,ov,B,hr,_⟩:=h;have c0:=Z9 (l:=[.int .u32 0,.int .i32 0,z,.nilIface,ov]) hr 0 rfl;have hl:=run_call_load (P:=prog) func157 yZ yZ yZ .u32 yZ (w:=w) (a:=⟨R,0,none⟩) (x:=0) c0;clear hr;go_enter func78,ntmps78
  go_wp2_with (first
   | (go_at_call 117;go_in)
   | (go_at_call 118;refine (HC.o).mono ?_;rintro e w2 ⟨rfl,ha,hb⟩;have hc:=zW ha;have hd:=zW hb;clear ha hb))
  go_end0
  exact ⟨rfl,hc.o,hd.o⟩
 ·have H:=zW h;obtain ⟨z,Q,cs,tv,B,_,hr,_⟩:=h;have c0:=Z9 (l:=[.int .u32 1,.int .i32 0,z,ifB Q,.slice none 0 0]) hr 0 rfl;have hl:=run_call_load (P:=prog) func157 yZ yZ yZ .u32 yZ (w:=w) (a:=⟨R,0,none⟩) (x:=1) c0;clear hr;go_enter func78,ntmps78
  go_wp2_with (go_at_call 117;go_in)
  go_end0
  exact ⟨rfl,H.o,Mod.refl _ _⟩
theorem Q7q (R:Nat) (ps:Prs) (s:fY) (w:World) (h:RpIn w R ps) (h2:2≤ps.length) (h10:ps.length≤10) (hp:Q6f ps) (hs:s.size≤100000):
 Calls prog 39 #[.pointer (some ⟨R,0,none⟩),.string s] w fun e w'=>e=.returned (.string (ofL (O1 ps s.data.toList)))∧RpIn w' R ps∧Mod (fun k=>k=R) w w':=by
 have HC:=zW (V8s R ps w h h2 h10 hp);have hj:∀ (fn:Fn) (first cap:Array Value) (w:World),(Instr.makeFunc fn first cap).run prog w=.ok (.func fn first cap) w:=fun _ _ _ _=>rfl;have HP:=zW hp;clear h hp;go_enter func39,ntmps39
 go_wp2_with fail
 refine (HC.o).mono ?_;rintro e w1 ⟨rfl,hb1,hm1⟩;have he:=zW hb1;have hg:=zW hm1;obtain ⟨z,Q,cs,tv,B,hh,hr,hd⟩:=hb1;have q3:=Z9 (l:=[.int .u32 1,.int .i32 0,z,ifB Q,.slice none 0 0]) hr 3 rfl;unfold ifB at q3;have HR:=zW (Y0l Q ps _ cs tv s w1 hd.bsIn HP.o (List.pairwise_reverse.2 (HP.o.2.imp fun h=>Ne.symm h)) (fun c=>by
  rw [List.mem_reverse];constructor
  ·intro hm hn;obtain ⟨r,hr⟩:=Z5u ps c hm;rw [hr] at hn;cases hn
  ·intro hn;cases hk:lk ps c with
   | none=>exact absurd hk hn
   | some r=>exact cF.2 ⟨_,Q7e ps c r hk,rfl⟩) (by rw [cT,bA];exact h10) hs)
 clear hr hd hm1;obtain ⟨res,ha⟩:∃ res,yK (res=ofL (O1 ps s.data.toList)):=⟨_,rfl⟩;rw [←ha.o] at HR;have hl : ∀ w : World, (method 444 240 (.pointer (some ⟨Q, 0, none⟩)) "Replace").run prog w = .ok (266, .pointer (some ⟨Q, 0, none⟩)) w := fun _ =>yZ
 go_wp2_with (go_at_call 266;refine (HR.o).mono ?_;rintro e w2 ⟨rfl,hc⟩;have hb:=zW hc;clear hc)
 go_ret
 exact ⟨by rw [ha.o];rfl,.inr (he.o.below hb.o),hg.o.trans ((Mod.of_below hb.o).weak (T:=fun k=>k=R) fun _ hf _=>hf.elim) fun i hi _=>hi⟩
def U0t (ps:Prs) (w:World) (e:Ending) (w':World):Prop:=∃ R,e=.returned (.pointer (some ⟨R,0,none⟩))∧w.heap.size≤R∧RpIn w' R ps∧Below w.heap.size w w'
theorem Q1t (ps:Prs) (v:Value) (w:World) (h:RdE Q9h 1 w v (L7 ps)) (h10:ps.length≤10) (h1:1≤ps.length):
 Calls prog 38 #[v] w (U0t ps w):=by
 obtain ⟨A,c,rfl,hi,_⟩:=h.shape;have hj:(((L7 ps).length:Int)) % 2=0:=(by rw [Q2b];omega);have hk:(((L7 ps).length:Int)).tmod 2=0:=(by rw [Int.tmod_eq_emod_of_nonneg yY];exact hj);have hl:(L7 ps).length≤20:=(by rw [Q2b];omega);have H:=zW h;clear h;generalize hn:(L7 ps).length=n at *;have HN:=zW hn;clear hn;go_enter func38,ntmps38
 have hc:yK (w.ownsRow w.heap.size 9 1 (.slice none 0 0) ([]:List fY).length (([]:List fY).flatMap Q9h)):=eN _ _ _ _;go_wp2_with (at_builtin;refine V2 rfl (.const (.slice none 0 0)) (.tmp 8) 79 9 rfl underlying79 _ Q9h 1 16 X9u rfl yX (fun _=>rfl) (fun x u hu=>by rw [aJ.1 hu];rfl) w.heap.size (.slice none 0 0) [] rfl hc.o (.slice A n c) (L7 ps) rfl H.o (by rw [HN.o];simp;omega) yX yQ ?_;intro v5 w5 ha hb hd;obtain ⟨A5,c5,hf⟩:=Q0 ha;rw [bJ,HN.o] at hf;subst hf;have hh:=zW ha;have he:=zW (hb w.heap.size w yQ (aB _ _));clear ha hb hd)
 have hg:=he.o.size;have HL:=zW (he.o.alloc hg (rpC (.int .u32 0) (.int .i32 0) (.int .u32 0) .nilIface (.slice A5 n c5)));go_ret
 exact ⟨w5.heap.size,rfl,hg,.inl ⟨_,_,w.heap.size,aT w5 _,aD hh.o _⟩,HL.o⟩
theorem Y4y (l:List fY) (w:World) (t:TypeId):RdE Q9h 1 (w.alloc (.cells (l.map Value.string).toArray t)) (.slice (some ⟨w.heap.size,0,none⟩) l.length l.length) l:=by
 refine ⟨some ⟨w.heap.size,0,none⟩,l.length,rfl,yQ,(fun h=>by cases h),fun _=>⟨w.heap.size,0,rfl,by simp,fun i x j u hi hj=>?_⟩⟩;have ha:j=0:=by
  have:=(aM.1 hj).1;simpa [Q9h] using this
 subst ha;have hu:u=.string x:=by
  injection hj with hj;exact hj.symm
 subst hu;exact Z9 (aT w _) _ (by rw [cE];simp [hi])
theorem Y5g (f:List Tk) (v:Value) (m:Int) (w:World) (hm:w.cell? ⟨0,0,none⟩=some (.int .i64 m)) (h1:RdT w v f) (hv:ValF f) (hpl:∀ x∈f,V8 x):
 Calls prog 12 #[v] w fun e w'=>e=.returned (.tuple #[.string (ofL (V3 3 f)),.int .i64 0])∧Below w.heap.size w w':=by
 obtain ⟨R,hj⟩:∃ R:Ending→World→Prop,yK (R=fun e w'=>e=.returned (.tuple #[.string (ofL (V3 3 f)),.int .i64 0])∧Below w.heap.size w w'):=⟨_,rfl⟩;rw [←hj.o];have hn:=Q8a f hv;have CV:=zW (Q6e f v m w hm h1 hv (fun x hx=>by have:=hn x hx;omega));have hM:=hv.len;have HV:=zW hv;have H1:=zW h1;have HM:=zW hm;have HZ:=zW hn;have HP:=zW hpl;obtain ⟨A,c,rfl,hF,_⟩:=h1.shape;clear h1 hv hm hn hpl;go_enter func12,ntmps12
 go_wp2_with (go_at_call 37;refine (CV.o).mono ?_;rintro e w0 ⟨rfl,ho⟩;have hp:=zW ho;have hB:=ho.size;clear ho)
 have HN:=zW (Q1t X2e _ _ (Y4y (L7 X2e) w0 9) yX yX);have hs:=zW (hp.o.alloc hB (.cells ((L7 X2e).map Value.string).toArray 9));refine (HN.o).mono ?_;rintro e w3 ⟨Rp,rfl,hRp,hrp,hw3⟩;have hE:w.heap.size≤Rp:=(by simp at hRp;omega);have ht:=zW hrp;have hr:=zW (hs.o.trans (hw3.mono yV));clear HN hs hrp hw3 hRp hB hp;generalize w0.alloc _=w00 at *;go_wp2_with fail
 go_loopg [6,18] f.length (fun gk sv iv wr=>∃ i:Nat,iv=.int .i64 i∧sv=.string (ofL (V3 3 (f.take i)))∧i≤f.length∧yK ((ofL (V3 3 (f.take i))).size≤i * 6000)∧yK (RpIn wr Rp X2e)∧yK (Below w.heap.size w wr)∧f.length - i≤gk)
 case atStart=>exact ⟨0,rfl,rfl,aO _,(by show _≤_;rw [cW];decide),ht.o,hr.o,yQ⟩
 case round=>
  clear ht hr;obtain ⟨i,rfl,rfl,hi,hc,HR,HB,hgk⟩:=hrel;by_cases hlt:i < f.length
  ·have hL:(i:Int) < (f.length:Int):=yY;have hK:(0:Int)≤(i:Int):=yY;obtain ⟨b,o,hA,hl,p0,p1,p2⟩:=RdT.at_ H1.o i hlt;subst hA;have ha:=aL hlt;have hz:=HV.o.wf _ ha;have hy:=HZ.o _ ha;have hh:=zW (HP.o _ ha);have hg:=zW (Q8g 3 f i hlt);have hG:=Q2s 3 f[i];have he:yK ((ofL (V3 3 (f.take (i+1)))).size≤(i+1) * 6000):=by
    show _≤_;have h:=hc.o;rw [aC] at h ⊢;rw [M1] at h ⊢;rw [hg.o,aA];omega
   have q0:=(HB.o.cell (p:=⟨b,o+i * 3,none⟩) hl).trans p0;have q1:=(HB.o.cell (p:=⟨b,o+i * 3+1,none⟩) hl).trans p1;have q2:=(HB.o.cell (p:=⟨b,o+i * 3+2,none⟩) hl).trans p2;have hI:=HB.o.size;obtain ⟨S,HS⟩:∃ S,yK (S=ofL (V3 3 (f.take i))):=⟨_,rfl⟩;rw [←HS.o] at hc ⊢;have hS:S.size≤4000000:=(by have:=hc.o;omega);clear hG ha;generalize f[i]=x at p0 p1 p2 q0 q1 q2 hz hy hg hh;obtain ⟨xk,xt,xd⟩:=x;simp only at p0 p1 p2 q0 q1 q2 hy;clear p0 p1 p2;have HY:yK ((wr.alloc (.cells #[.int .i64 xk,.string xt,.int .i64 xd] 31)).heap[wr.heap.size]? =some (.cells #[.int .i64 xk,.string xt,.int .i64 xd] 31)):=aY;have hb:=zW (HB.o.alloc hI (.cells #[.int .i64 xk,.string xt,.int .i64 xd] 31));have hf:=zW (HR.o.below ((aB _ wr).alloc yQ (.cells #[.int .i64 xk,.string xt,.int .i64 xd] 31)));obtain ⟨q,hq⟩:∃ q,yK (q=wr.heap.size):=⟨_,rfl⟩;go_upto_region 9 with fail
   rw [←hq.o] at HY ⊢;generalize wr.alloc (.cells #[.int .i64 xk,.string xt,.int .i64 xd] 31)=w1 at HY hb hf ⊢;obtain ⟨y0,y1,y2,_⟩:=bx3 HY.o;have hJ:=zW (X8 HM.o hb.o);rcases hz with hk | ⟨hk,hnm,hd⟩ | ⟨hk,hct,hd1,hd2⟩ | ⟨hk,hnm,hd1,hd2⟩
   ·have hk':xk=1:=hk;subst hk';have CR:=zW (Q7q Rp X2e xt w1 hf.o yX yX V9e yY);have hH:(ofL (O1 X2e xt.data.toList)).size≤6000:=by
     rw [Q8u X2e 3 U3v,aC,M1];have:=Q6s 3 xt.data.toList;rw [←aC] at this;omega
    have HE:yK (S++ofL (O1 X2e xt.data.toList)=ofL (V3 3 (f.take (i+1)))):=by
     show _=_;rw [hg.o,HS.o,←H6,Q8u X2e 3 U3v];rfl
    generalize ofL (O1 X2e xt.data.toList)=res at CR hH HE;go_wp2_with (go_at_call 39;refine (CR.o).mono ?_;rintro e w2 ⟨rfl,hw,hu⟩;have hD:=zW hw;have hC:=zW (hb.o.trans (hu.below (fun k hk=>by rw [hk];exact hE) hb.o.size));clear hw hu)
    rw [HE.o];go_roundg (f.length - (i+1))
    case measure=>omega
    case rel=>exact ⟨i+1,by go_num,rfl,hlt,he.o,hD.o,hC.o,yY⟩
   ·have hk':xk=5:=hk;subst hk';have HE:yK (S++(((⟨#[123]⟩:fY)++xt)++(⟨#[125]⟩:fY))=ofL (V3 3 (f.take (i+1)))):=by
     show _=_;rw [hg.o,HS.o,←H6];congr 1;all_goals (
      apply cB;apply bX.1;simp [ofL,V6])
    go_wp2_with fail
    rw [HE.o];go_roundg (f.length - (i+1))
    case measure=>omega
    case rel=>exact ⟨i+1,by go_num,rfl,hlt,he.o,by first | exact hf.o | exact hf.o.below (Q1 (aB _ _) n2),by first | exact hb.o | exact Q1 hb.o n2,yY⟩
   ·exfalso;rcases hh.o with h | ⟨h,_⟩
    ·have h':xk=1:=h;omega
    ·have h':xk=5:=h;omega
   ·exfalso;have hk':xk=3:=hk;rcases hh.o with h | ⟨h,_⟩
    ·have h':xk=1:=h;omega
    ·have h':xk=5:=h;omega
  ·obtain rfl:i=f.length:=yY;rw [aW] at hc ⊢;generalize ofL (V3 3 f)=res at hc hj;go_wp2_with fail
   first | go_ret2 | skip
   rw [hj.o];exact ⟨rfl,HB.o⟩
theorem Y5f (f:List Tk) (v:Value) (m:Int) (w:World) (hm:w.cell? ⟨0,0,none⟩=some (.int .i64 m)) (h1:RdT w v f) (hv:ValF f) (hpl:∀ x∈f,V8 x):
 Calls prog 11 #[v] w fun e w'=>e=.returned (.tuple #[.string (ofL (V3 2 f)),.int .i64 0])∧Below w.heap.size w w':=by
 obtain ⟨R,hj⟩:∃ R:Ending→World→Prop,yK (R=fun e w'=>e=.returned (.tuple #[.string (ofL (V3 2 f)),.int .i64 0])∧Below w.heap.size w w'):=⟨_,rfl⟩;rw [←hj.o];have hn:=Q8a f hv;have CV:=zW (Q6e f v m w hm h1 hv (fun x hx=>by have:=hn x hx;omega));have hM:=hv.len;have HV:=zW hv;have H1:=zW h1;have HM:=zW hm;have HZ:=zW hn;have HP:=zW hpl;obtain ⟨A,c,rfl,hF,_⟩:=h1.shape;clear h1 hv hm hn hpl;go_enter func11,ntmps11
 go_wp2_with (go_at_call 37;refine (CV.o).mono ?_;rintro e w0 ⟨rfl,ho⟩;have hp:=zW ho;have hB:=ho.size;clear ho)
 have HN:=zW (Q1t X2d _ _ (Y4y (L7 X2d) w0 9) yX yX);have hs:=zW (hp.o.alloc hB (.cells ((L7 X2d).map Value.string).toArray 9));refine (HN.o).mono ?_;rintro e w3 ⟨Rp,rfl,hRp,hrp,hw3⟩;have hE:w.heap.size≤Rp:=(by simp at hRp;omega);have ht:=zW hrp;have hr:=zW (hs.o.trans (hw3.mono yV));clear HN hs hrp hw3 hRp hB hp;generalize w0.alloc _=w00 at *;go_wp2_with fail
 go_loopg [6,18] f.length (fun gk sv iv wr=>∃ i:Nat,iv=.int .i64 i∧sv=.string (ofL (V3 2 (f.take i)))∧i≤f.length∧yK ((ofL (V3 2 (f.take i))).size≤i * 6000)∧yK (RpIn wr Rp X2d)∧yK (Below w.heap.size w wr)∧f.length - i≤gk)
 case atStart=>exact ⟨0,rfl,rfl,aO _,(by show _≤_;rw [cW];decide),ht.o,hr.o,yQ⟩
 case round=>
  clear ht hr;obtain ⟨i,rfl,rfl,hi,hc,HR,HB,hgk⟩:=hrel;by_cases hlt:i < f.length
  ·have hL:(i:Int) < (f.length:Int):=yY;have hK:(0:Int)≤(i:Int):=yY;obtain ⟨b,o,hA,hl,p0,p1,p2⟩:=RdT.at_ H1.o i hlt;subst hA;have ha:=aL hlt;have hz:=HV.o.wf _ ha;have hy:=HZ.o _ ha;have hh:=zW (HP.o _ ha);have hg:=zW (Q8g 2 f i hlt);have hG:=Q2s 2 f[i];have he:yK ((ofL (V3 2 (f.take (i+1)))).size≤(i+1) * 6000):=by
    show _≤_;have h:=hc.o;rw [aC] at h ⊢;rw [M1] at h ⊢;rw [hg.o,aA];omega
   have q0:=(HB.o.cell (p:=⟨b,o+i * 3,none⟩) hl).trans p0;have q1:=(HB.o.cell (p:=⟨b,o+i * 3+1,none⟩) hl).trans p1;have q2:=(HB.o.cell (p:=⟨b,o+i * 3+2,none⟩) hl).trans p2;have hI:=HB.o.size;obtain ⟨S,HS⟩:∃ S,yK (S=ofL (V3 2 (f.take i))):=⟨_,rfl⟩;rw [←HS.o] at hc ⊢;have hS:S.size≤4000000:=(by have:=hc.o;omega);clear hG ha;generalize f[i]=x at p0 p1 p2 q0 q1 q2 hz hy hg hh;obtain ⟨xk,xt,xd⟩:=x;simp only at p0 p1 p2 q0 q1 q2 hy;clear p0 p1 p2;have HY:yK ((wr.alloc (.cells #[.int .i64 xk,.string xt,.int .i64 xd] 31)).heap[wr.heap.size]? =some (.cells #[.int .i64 xk,.string xt,.int .i64 xd] 31)):=aY;have hb:=zW (HB.o.alloc hI (.cells #[.int .i64 xk,.string xt,.int .i64 xd] 31));have hf:=zW (HR.o.below ((aB _ wr).alloc yQ (.cells #[.int .i64 xk,.string xt,.int .i64 xd] 31)));obtain ⟨q,hq⟩:∃ q,yK (q=wr.heap.size):=⟨_,rfl⟩;go_upto_region 9 with fail
   rw [←hq.o] at HY ⊢;generalize wr.alloc (.cells #[.int .i64 xk,.string xt,.int .i64 xd] 31)=w1 at HY hb hf ⊢;obtain ⟨y0,y1,y2,_⟩:=bx3 HY.o;have hJ:=zW (X8 HM.o hb.o);rcases hz with hk | ⟨hk,hnm,hd⟩ | ⟨hk,hct,hd1,hd2⟩ | ⟨hk,hnm,hd1,hd2⟩
   ·have hk':xk=1:=hk;subst hk';have CR:=zW (Q7q Rp X2d xt w1 hf.o yX yX V9d yY);have hH:(ofL (O1 X2d xt.data.toList)).size≤6000:=by
     rw [Q8u X2d 2 U3u,aC,M1];have:=Q6s 2 xt.data.toList;rw [←aC] at this;omega
    have HE:yK (S++ofL (O1 X2d xt.data.toList)=ofL (V3 2 (f.take (i+1)))):=by
     show _=_;rw [hg.o,HS.o,←H6,Q8u X2d 2 U3u];rfl
    generalize ofL (O1 X2d xt.data.toList)=res at CR hH HE;go_wp2_with (go_at_call 39;refine (CR.o).mono ?_;rintro e w2 ⟨rfl,hw,hu⟩;have hD:=zW hw;have hC:=zW (hb.o.trans (hu.below (fun k hk=>by rw [hk];exact hE) hb.o.size));clear hw hu)
    rw [HE.o];go_roundg (f.length - (i+1))
    case measure=>omega
    case rel=>exact ⟨i+1,by go_num,rfl,hlt,he.o,hD.o,hC.o,yY⟩
   ·have hk':xk=5:=hk;subst hk';have HE:yK (S++(((⟨#[123]⟩:fY)++xt)++(⟨#[125]⟩:fY))=ofL (V3 2 (f.take (i+1)))):=by
     show _=_;rw [hg.o,HS.o,←H6];congr 1;all_goals (
      apply cB;apply bX.1;simp [ofL,V6])
    go_wp2_with fail
    rw [HE.o];go_roundg (f.length - (i+1))
    case measure=>omega
    case rel=>exact ⟨i+1,by go_num,rfl,hlt,he.o,by first | exact hf.o | exact hf.o.below (Q1 (aB _ _) n2),by first | exact hb.o | exact Q1 hb.o n2,yY⟩
   ·exfalso;rcases hh.o with h | ⟨h,_⟩
    ·have h':xk=1:=h;omega
    ·have h':xk=5:=h;omega
   ·exfalso;have hk':xk=3:=hk;rcases hh.o with h | ⟨h,_⟩
    ·have h':xk=1:=h;omega
    ·have h':xk=5:=h;omega
  ·obtain rfl:i=f.length:=yY;rw [aW] at hc ⊢;generalize ofL (V3 2 f)=res at hc hj;go_wp2_with fail
   first | go_ret2 | skip
   rw [hj.o];exact ⟨rfl,HB.o⟩
theorem X1v (f:List Tk) (v:Value) (m:Int) (w:World) (hm:w.cell? ⟨0,0,none⟩=some (.int .i64 m)) (h1:RdT w v f) (hv:ValF f) (hnb:Q5e f):
 Calls prog 10 #[v] w fun e w'=>e=.returned (.tuple #[.string (ofL (V3 1 f)),.int .i64 0])∧Below w.heap.size w w':=by
 obtain ⟨R,hn⟩:∃ R:Ending→World→Prop,yK (R=fun e w'=>e=.returned (.tuple #[.string (ofL (V3 1 f)),.int .i64 0])∧Below w.heap.size w w'):=⟨_,rfl⟩;rw [←hn.o];have hp:=Q8a f hv;have CV:=zW (Q6e f v m w hm h1 hv (fun x hx=>by have:=hp x hx;omega));have hM:=hv.len;have HV:=zW hv;have H1:=zW h1;have HM:=zW hm;have HZ:=zW hp;have HP:=zW hnb;obtain ⟨A,c,rfl,hG,_⟩:=h1.shape;clear h1 hv hm hp hnb;go_enter func10,ntmps10
 go_wp2_with (go_at_call 37;refine (CV.o).mono ?_;rintro e w0 ⟨rfl,hr⟩;have hs:=zW hr;have hC:=hr.size;clear hr)
 have HN:=zW (Q1t X2c _ _ (Y4y (L7 X2c) w0 9) yX yX);have hb:=zW (hs.o.alloc hC (.cells ((L7 X2c).map Value.string).toArray 9));refine (HN.o).mono ?_;rintro e w3 ⟨Rp,rfl,hRp,hrp,hw3⟩;have hF:w.heap.size≤Rp:=(by simp at hRp;omega);have hu:=zW hrp;have ht:=zW (hb.o.trans (hw3.mono yV));clear HN hb hrp hw3 hRp hC hs;generalize w0.alloc _=w00 at *;go_wp2_with fail
 go_loopg [6,18] f.length (fun gk sv iv wr=>∃ i:Nat,iv=.int .i64 i∧sv=.string (ofL (V3 1 (f.take i)))∧i≤f.length∧yK ((ofL (V3 1 (f.take i))).size≤i * 6000)∧yK (RpIn wr Rp X2c)∧yK (Below w.heap.size w wr)∧f.length - i≤gk)
 case atStart=>exact ⟨0,rfl,rfl,aO _,(by show _≤_;rw [cW];decide),hu.o,ht.o,yQ⟩
 case round=>
  clear hu ht;obtain ⟨i,rfl,rfl,hi,hh,HR,HB,hgk⟩:=hrel;by_cases hlt:i < f.length
  ·have hL:(i:Int) < (f.length:Int):=yY;have hK:(0:Int)≤(i:Int):=yY;obtain ⟨b,o,hA,ho,p0,p1,p2⟩:=RdT.at_ H1.o i hlt;subst hA;have hf:=aL hlt;have hB:=HV.o.wf _ hf;have hz:=HZ.o _ hf;have hj:=zW (HP.o _ hf);have hg:=zW (Q8g 1 f i hlt);have hH:=Q2s 1 f[i];have hc:yK ((ofL (V3 1 (f.take (i+1)))).size≤(i+1) * 6000):=by
    show _≤_;have h:=hh.o;rw [aC] at h ⊢;rw [M1] at h ⊢;rw [hg.o,aA];omega
   have q0:=(HB.o.cell (p:=⟨b,o+i * 3,none⟩) ho).trans p0;have q1:=(HB.o.cell (p:=⟨b,o+i * 3+1,none⟩) ho).trans p1;have q2:=(HB.o.cell (p:=⟨b,o+i * 3+2,none⟩) ho).trans p2;have hJ:=HB.o.size;obtain ⟨S,HS⟩:∃ S,yK (S=ofL (V3 1 (f.take i))):=⟨_,rfl⟩;rw [←HS.o] at hh ⊢;have hS:S.size≤4000000:=(by have:=hh.o;omega);clear hH hf;generalize f[i]=x at p0 p1 p2 q0 q1 q2 hB hz hg hj;obtain ⟨xk,xt,xd⟩:=x;simp only at p0 p1 p2 q0 q1 q2 hz;clear p0 p1 p2;have HY:yK ((wr.alloc (.cells #[.int .i64 xk,.string xt,.int .i64 xd] 31)).heap[wr.heap.size]? =some (.cells #[.int .i64 xk,.string xt,.int .i64 xd] 31)):=aY;have ha:=zW (HB.o.alloc hJ (.cells #[.int .i64 xk,.string xt,.int .i64 xd] 31));have he:=zW (HR.o.below ((aB _ wr).alloc yQ (.cells #[.int .i64 xk,.string xt,.int .i64 xd] 31)));obtain ⟨q,hq⟩:∃ q,yK (q=wr.heap.size):=⟨_,rfl⟩;go_upto_region 9 with fail
   rw [←hq.o] at HY ⊢;generalize wr.alloc (.cells #[.int .i64 xk,.string xt,.int .i64 xd] 31)=w1 at HY ha he ⊢;obtain ⟨y0,y1,y2,_⟩:=bx3 HY.o;have hl:=zW (X8 HM.o ha.o);rcases hB with hk | ⟨hk,hnm,hd⟩ | ⟨hk,hct,hd1,hd2⟩ | ⟨hk,hnm,hd1,hd2⟩
   ·have hk':xk=1:=hk;subst hk';have CR:=zW (Q7q Rp X2c xt w1 he.o yX yX V9c yY);have hI:(ofL (O1 X2c xt.data.toList)).size≤6000:=by
     rw [Q8u X2c 1 U3t,aC,M1];have:=Q6s 1 xt.data.toList;rw [←aC] at this;omega
    have HE:yK (S++ofL (O1 X2c xt.data.toList)=ofL (V3 1 (f.take (i+1)))):=by
     show _=_;rw [hg.o,HS.o,←H6,Q8u X2c 1 U3t];rfl
    generalize ofL (O1 X2c xt.data.toList)=res at CR hI HE;go_wp2_with (go_at_call 39;refine (CR.o).mono ?_;rintro e w2 ⟨rfl,hy,hw⟩;have hE:=zW hy;have hD:=zW (ha.o.trans (hw.below (fun k hk=>by rw [hk];exact hF) ha.o.size));clear hy hw)
    rw [HE.o];go_roundg (f.length - (i+1))
    case measure=>omega
    case rel=>exact ⟨i+1,by go_num,rfl,hlt,hc.o,hE.o,hD.o,yY⟩
   ·have hk':xk=5:=hk;subst hk';have HE:yK (S++(((⟨#[123]⟩:fY)++xt)++(⟨#[125]⟩:fY))=ofL (V3 1 (f.take (i+1)))):=by
     show _=_;rw [hg.o,HS.o,←H6];congr 1;all_goals (
      apply cB;apply bX.1;simp [ofL,V6])
    go_wp2_with fail
    rw [HE.o];go_roundg (f.length - (i+1))
    case measure=>omega
    case rel=>exact ⟨i+1,by go_num,rfl,hlt,hc.o,by first | exact he.o | exact he.o.below (Q1 (aB _ _) n2),by first | exact ha.o | exact Q1 ha.o n2,yY⟩
   ·rcases hk with hk | hk
    ·have hk':xk=2:=hk;subst hk';have HE:yK (S++(((⟨#[60]⟩:fY)++xt)++(⟨#[62]⟩:fY))=ofL (V3 1 (f.take (i+1)))):=by
      show _=_;rw [hg.o,HS.o,←H6];congr 1;all_goals (
       apply cB;apply bX.1;simp [ofL,V6])
     have HN:=zW (fun w (hm:w.cell? ⟨0,0,none⟩=some (.int .i64 m))=>Q5r xt m w yY hm);have hb:=zW (fun w=>Q2v (ofL (Z0 xt.data.toList)) w (by simpa [ofL] using hj.o (by unfold N7;first | exact Or.inl rfl | exact Or.inr (Or.inl rfl) | exact Or.inr (Or.inr rfl))));generalize ofL (Z0 xt.data.toList)=tn at HN hb;have y0':w1.cell? ⟨q,0,none⟩=some (.int .i64 2):=y0;go_wp2_with (first
      | (go_at_call 41;refine (HN.o _ (by exact hl.o)).mono ?_;rintro e w2 ⟨rfl,n2,rfl⟩)
      | (go_at_call 40;refine (hb.o _).mono ?_;rintro e w' ⟨rfl,rfl⟩))
     rw [HE.o];go_roundg (f.length - (i+1))
     case measure=>omega
     case rel=>exact ⟨i+1,by go_num,rfl,hlt,hc.o,by first | exact he.o | exact he.o.below (Q1 (aB _ _) n2),by first | exact ha.o | exact Q1 ha.o n2,yY⟩
    ·have hk':xk=4:=hk;subst hk';have HE:yK (S++(((⟨#[60]⟩:fY)++xt)++(⟨#[47,62]⟩:fY))=ofL (V3 1 (f.take (i+1)))):=by
      show _=_;rw [hg.o,HS.o,←H6];congr 1;all_goals (
       apply cB;apply bX.1;simp [ofL,V6])
     have HN:=zW (fun w (hm:w.cell? ⟨0,0,none⟩=some (.int .i64 m))=>Q5r xt m w yY hm);have hb:=zW (fun w=>Q2v (ofL (Z0 xt.data.toList)) w (by simpa [ofL] using hj.o (by unfold N7;first | exact Or.inl rfl | exact Or.inr (Or.inl rfl) | exact Or.inr (Or.inr rfl))));generalize ofL (Z0 xt.data.toList)=tn at HN hb;have y0':w1.cell? ⟨q,0,none⟩=some (.int .i64 4):=y0;go_wp2_with (first
      | (go_at_call 41;refine (HN.o _ (by exact hl.o)).mono ?_;rintro e w2 ⟨rfl,n2,rfl⟩)
      | (go_at_call 40;refine (hb.o _).mono ?_;rintro e w' ⟨rfl,rfl⟩))
     rw [HE.o];go_roundg (f.length - (i+1))
     case measure=>omega
     case rel=>exact ⟨i+1,by go_num,rfl,hlt,hc.o,by first | exact he.o | exact he.o.below (Q1 (aB _ _) n2),by first | exact ha.o | exact Q1 ha.o n2,yY⟩
   ·have hk':xk=3:=hk;subst hk';have HE:yK (S++(((⟨#[60,47]⟩:fY)++xt)++(⟨#[62]⟩:fY))=ofL (V3 1 (f.take (i+1)))):=by
     show _=_;rw [hg.o,HS.o,←H6];congr 1;all_goals (
      apply cB;apply bX.1;simp [ofL,V6])
    have HN:=zW (fun w (hm:w.cell? ⟨0,0,none⟩=some (.int .i64 m))=>Q5r xt m w yY hm);have hb:=zW (fun w=>Q2v (ofL (Z0 xt.data.toList)) w (by simpa [ofL] using hj.o (by unfold N7;first | exact Or.inl rfl | exact Or.inr (Or.inl rfl) | exact Or.inr (Or.inr rfl))));generalize ofL (Z0 xt.data.toList)=tn at HN hb;have y0':w1.cell? ⟨q,0,none⟩=some (.int .i64 3):=y0;go_wp2_with (first
     | (go_at_call 41;refine (HN.o _ (by exact hl.o)).mono ?_;rintro e w2 ⟨rfl,n2,rfl⟩)
     | (go_at_call 40;refine (hb.o _).mono ?_;rintro e w' ⟨rfl,rfl⟩))
    rw [HE.o];go_roundg (f.length - (i+1))
    case measure=>omega
    case rel=>exact ⟨i+1,by go_num,rfl,hlt,hc.o,by first | exact he.o | exact he.o.below (Q1 (aB _ _) n2),by first | exact ha.o | exact Q1 ha.o n2,yY⟩
  ·obtain rfl:i=f.length:=yY;rw [aW] at hh ⊢;generalize ofL (V3 1 f)=res at hh hn;go_wp2_with fail
   first | go_ret2 | skip
   rw [hn.o];exact ⟨rfl,HB.o⟩
def U4a (fmt:Int):FuncId:=if fmt=1 then 94 else if fmt=2 then 95 else 96
def U0p (fmt:Int):FuncId:=if fmt=1 then 13 else if fmt=2 then 14 else 15
def U0s (fmt:Int):FuncId:=if fmt=1 then 10 else if fmt=2 then 11 else 12
def U0n (fmt:Int):FuncId:=if fmt=1 then 106 else if fmt=2 then 107 else 108
def D1 (fmt:Int):Prop:=fmt=1∨fmt=2∨fmt=3
def X0r (f:List Tk) (w:World) (e:Ending) (w':World):Prop:=
 ∃ v,e=.returned (.tuple #[v,.int .i64 0,.int .i64 0])∧OwnT 31 w' w.heap.size v f∧Below w.heap.size w w'
def X0q (f:List Tk) (w:World) (e:Ending) (w':World):Prop:=
 ∃ v,e=.returned (.tuple #[v,.int .i64 0])∧OwnT 31 w' w.heap.size v f∧Below w.heap.size w w'
def Q5c (l:List Int) (w:World) (e:Ending) (w':World):Prop:=
 ∃ v,e=.returned (.tuple #[v,.int .i64 0])∧OwnE 3 V7 1 w' w.heap.size v l∧Below w.heap.size w w'
def Q5d (s:fY) (w:World) (e:Ending) (w':World):Prop:=
 e=.returned (.tuple #[.string s,.int .i64 0])∧Below w.heap.size w w'
theorem X4b (fmt:Int) (h:D1 fmt) (w:World):Calls prog 55 #[.int .i64 fmt] w (fun e w'=>e=.returned (.bool true)∧w=w'):=by
 rcases h with rfl | rfl | rfl
 all_goals (
  go_enter func55,ntmps55
  go_wp2
  go_ret
  exact ⟨rfl,rfl⟩)
theorem V9y (data:fY) (ps:List Pt) (w:World) (h:Calls prog 94 #[.string data] w (D6 ps w)):
 Calls prog 57 #[.int .i64 1,.string data] w (D6 ps w):=by
 have HC:=zW h;clear h;go_enter func57,ntmps57
 go_wp2_with (go_at_call 94;refine (HC.o).mono ?_;rintro e w1 ⟨v,rfl,ho,hb⟩;obtain ⟨A,c,rfl⟩:=Q0 ho;have HO:=zW ho;have HB:=zW hb;clear ho hb)
 go_ret3
 exact ⟨_,rfl,HO.o,HB.o⟩
theorem V9z (data:fY) (ps:List Pt) (w:World) (h:Calls prog 95 #[.string data] w (D6 ps w)):
 Calls prog 57 #[.int .i64 2,.string data] w (D6 ps w):=by
 have HC:=zW h;clear h;go_enter func57,ntmps57
 go_wp2_with (go_at_call 95;refine (HC.o).mono ?_;rintro e w1 ⟨v,rfl,ho,hb⟩;obtain ⟨A,c,rfl⟩:=Q0 ho;have HO:=zW ho;have HB:=zW hb;clear ho hb)
 go_ret3
 exact ⟨_,rfl,HO.o,HB.o⟩
theorem U0a (data:fY) (ps:List Pt) (w:World) (h:Calls prog 96 #[.string data] w (D6 ps w)):
 Calls prog 57 #[.int .i64 3,.string data] w (D6 ps w):=by
 have HC:=zW h;clear h;go_enter func57,ntmps57
 go_wp2_with (go_at_call 96;refine (HC.o).mono ?_;rintro e w1 ⟨v,rfl,ho,hb⟩;obtain ⟨A,c,rfl⟩:=Q0 ho;have HO:=zW ho;have HB:=zW hb;clear ho hb)
 go_ret3
 exact ⟨_,rfl,HO.o,HB.o⟩
theorem U3a (raw:fY) (f:List Tk) (w:World) (h:Calls prog 13 #[.string raw] w (X0r f w)):
 Calls prog 56 #[.int .i64 1,.string raw] w (X0q f w):=by
 have HC:=zW h;clear h;go_enter func56,ntmps56
 go_wp2_with (go_at_call 13;refine (HC.o).mono ?_;rintro e w1 ⟨v,rfl,ho,hb⟩;obtain ⟨A,c,rfl⟩:=Q0 ho;have HO:=zW ho;have HB:=zW hb;clear ho hb)
 go_ret2
 exact ⟨_,rfl,HO.o,HB.o⟩
theorem U3b (raw:fY) (f:List Tk) (w:World) (h:Calls prog 14 #[.string raw] w (X0r f w)):
 Calls prog 56 #[.int .i64 2,.string raw] w (X0q f w):=by
 have HC:=zW h;clear h;go_enter func56,ntmps56
 go_wp2_with (go_at_call 14;refine (HC.o).mono ?_;rintro e w1 ⟨v,rfl,ho,hb⟩;obtain ⟨A,c,rfl⟩:=Q0 ho;have HO:=zW ho;have HB:=zW hb;clear ho hb)
 go_ret2
 exact ⟨_,rfl,HO.o,HB.o⟩
theorem U3c (raw:fY) (f:List Tk) (w:World) (h:Calls prog 15 #[.string raw] w (X0r f w)):
 Calls prog 56 #[.int .i64 3,.string raw] w (X0q f w):=by
 have HC:=zW h;clear h;go_enter func56,ntmps56
 go_wp2_with (go_at_call 15;refine (HC.o).mono ?_;rintro e w1 ⟨v,rfl,ho,hb⟩;obtain ⟨A,c,rfl⟩:=Q0 ho;have HO:=zW ho;have HB:=zW hb;clear ho hb)
 go_ret2
 exact ⟨_,rfl,HO.o,HB.o⟩
theorem U1c (raw:fY) (l:List Int) (w:World) (h:Calls prog 106 #[.string raw] w (Q5c l w)):
 Calls prog 67 #[.int .i64 1,.string raw] w (Q5c l w):=by
 have HC:=zW h;clear h;go_enter func67,ntmps67
 go_wp2_with (go_at_call 106;refine (HC.o).mono ?_;rintro e w1 ⟨v,rfl,ho,hb⟩;obtain ⟨A,c,rfl⟩:=Q0 ho;have HO:=zW ho;have HB:=zW hb;clear ho hb)
 go_ret2
 exact ⟨_,rfl,HO.o,HB.o⟩
theorem U1d (raw:fY) (l:List Int) (w:World) (h:Calls prog 107 #[.string raw] w (Q5c l w)):
 Calls prog 67 #[.int .i64 2,.string raw] w (Q5c l w):=by
 have HC:=zW h;clear h;go_enter func67,ntmps67
 go_wp2_with (go_at_call 107;refine (HC.o).mono ?_;rintro e w1 ⟨v,rfl,ho,hb⟩;obtain ⟨A,c,rfl⟩:=Q0 ho;have HO:=zW ho;have HB:=zW hb;clear ho hb)
 go_ret2
 exact ⟨_,rfl,HO.o,HB.o⟩
theorem U1e (raw:fY) (l:List Int) (w:World) (h:Calls prog 108 #[.string raw] w (Q5c l w)):
 Calls prog 67 #[.int .i64 3,.string raw] w (Q5c l w):=by
 have HC:=zW h;clear h;go_enter func67,ntmps67
 go_wp2_with (go_at_call 108;refine (HC.o).mono ?_;rintro e w1 ⟨v,rfl,ho,hb⟩;obtain ⟨A,c,rfl⟩:=Q0 ho;have HO:=zW ho;have HB:=zW hb;clear ho hb)
 go_ret2
 exact ⟨_,rfl,HO.o,HB.o⟩
theorem U3k (A:Option Addr) (n c:Nat) (s:fY) (w:World) (h:Calls prog 10 #[.slice A n c] w (Q5d s w)):
 Calls prog 68 #[.int .i64 1,.slice A n c] w (Q5d s w):=by
 have HC:=zW h;clear h;go_enter func68,ntmps68
 go_wp2_with (go_at_call 10;refine (HC.o).mono ?_;rintro e w1 ⟨rfl,hb⟩;have HB:=zW hb;clear hb)
 go_ret2
 exact ⟨rfl,HB.o⟩
theorem U3l (A:Option Addr) (n c:Nat) (s:fY) (w:World) (h:Calls prog 11 #[.slice A n c] w (Q5d s w)):
 Calls prog 68 #[.int .i64 2,.slice A n c] w (Q5d s w):=by
 have HC:=zW h;clear h;go_enter func68,ntmps68
 go_wp2_with (go_at_call 11;refine (HC.o).mono ?_;rintro e w1 ⟨rfl,hb⟩;have HB:=zW hb;clear hb)
 go_ret2
 exact ⟨rfl,HB.o⟩
theorem U3m (A:Option Addr) (n c:Nat) (s:fY) (w:World) (h:Calls prog 12 #[.slice A n c] w (Q5d s w)):
 Calls prog 68 #[.int .i64 3,.slice A n c] w (Q5d s w):=by
 have HC:=zW h;clear h;go_enter func68,ntmps68
 go_wp2_with (go_at_call 12;refine (HC.o).mono ?_;rintro e w1 ⟨rfl,hb⟩;have HB:=zW hb;clear hb)
 go_ret2
 exact ⟨rfl,HB.o⟩
theorem V0m (fmt:Int) (hf:D1 fmt) (data:fY) (ps:List Pt) (w:World) (h:Calls prog (U4a fmt) #[.string data] w (D6 ps w)):
 Calls prog 57 #[.int .i64 fmt,.string data] w (D6 ps w):=by
 rcases hf with rfl | rfl | rfl
 ·exact V9y data ps w h
 ·exact V9z data ps w h
 ·exact U0a data ps w h
theorem Z4s (fmt:Int) (hf:D1 fmt) (raw:fY) (f:List Tk) (w:World) (h:Calls prog (U0p fmt) #[.string raw] w (X0r f w)):
 Calls prog 56 #[.int .i64 fmt,.string raw] w (X0q f w):=by
 rcases hf with rfl | rfl | rfl
 ·exact U3a raw f w h
 ·exact U3b raw f w h
 ·exact U3c raw f w h
theorem V1v (fmt:Int) (hf:D1 fmt) (raw:fY) (l:List Int) (w:World) (h:Calls prog (U0n fmt) #[.string raw] w (Q5c l w)):
 Calls prog 67 #[.int .i64 fmt,.string raw] w (Q5c l w):=by
 rcases hf with rfl | rfl | rfl
 ·exact U1c raw l w h
 ·exact U1d raw l w h
 ·exact U1e raw l w h
theorem V7q (fmt:Int) (hf:D1 fmt) (A:Option Addr) (n c:Nat) (s:fY) (w:World) (h:Calls prog (U0s fmt) #[.slice A n c] w (Q5d s w)):
 Calls prog 68 #[.int .i64 fmt,.slice A n c] w (Q5d s w):=by
 rcases hf with rfl | rfl | rfl
 ·exact U3k A n c s w h
 ·exact U3l A n c s w h
 ·exact U3m A n c s w h
theorem V2s (f:List Tk) (hf:f.Pairwise Y3h) (i:Nat) (h:i < f.length):∀ y∈f.take i,Y3h y f[i]:=by
 intro y hy;obtain ⟨j,hj,rfl⟩:=List.mem_iff_getElem.1 hy;rw [bG] at hj;rw [List.getElem_take];exact (fG.1 hf) j i yY h yY
theorem Z8p (f:List Tk) (hn:Normal f) (i:Nat) (h:i < f.length) (hk:f[i].k=1):∀ y,(f.take i).getLast? =some y→y.k≠1:=by
 intro y hy;cases i with
 | zero=>simp at hy
 | succ j=>
   rw [aH yY,List.getLast?_append] at hy;simp at hy;rw [←hy];exact Q7f f j f[j+1] f[j] hn (aF yY) (aF h) hk
theorem Y9x (f:List Tk) (v:Value) (w:World) (h1:RdT w v f) (hv:ValF f) (hs:∀ y∈f,y.t.size≤1000000):
 Calls prog 49 #[v] w fun e w'=>e=.returned (.int .i64 0)∧Below w.heap.size w w':=by
 obtain ⟨R,he⟩:∃ R:Ending→World→Prop,yK (R=fun e w'=>e=.returned (.int .i64 0)∧Below w.heap.size w w'):=⟨_,rfl⟩;rw [←he.o];obtain ⟨A,c,rfl,hj,_⟩:=h1.shape;have hq:=hv.len;have hl:=hv.pos;have CL:=zW (Q7s f _ w h1 yY yY);generalize X3 f=ln at hl CL;have H1:=zW h1;have HV:=zW hv;have hf:=zW hs;have t1:¬ (512:Int) < (f.length:Int):=yY;have t2:¬ (1024:Int) < (ln:Int):=yY;clear h1 hv hs;go_enter func49,ntmps49
 go_wp2_with (go_at_call 91;refine (CL.o).mono ?_;rintro e w0 ⟨rfl,rfl⟩)
 obtain ⟨wo,hc⟩:∃ wo,yK (wo=w):=⟨w,rfl⟩;go_loopg [15] f.length (fun gk iv wr=>∃ i:Nat,iv=.int .i64 i∧i≤f.length∧yK (Below wo.heap.size wo wr)∧f.length - i≤gk)
 case atStart=>exact ⟨0,rfl,aO _,by rw [hc.o];exact aB _ _,yQ⟩
 case round=>
  obtain ⟨i,rfl,hi,HB,hgk⟩:=hrel;rw [←hc.o] at H1;by_cases hlt:i < f.length
  ·have hp:(i:Int) < (f.length:Int):=yY;have ho:(0:Int)≤(i:Int):=yY;have hn:(i:Int)≤(c:Int):=yY;obtain ⟨b,o,hA,hd,p0,p1,p2⟩:=RdT.at_ H1.o i hlt;subst hA;have q0:=(HB.o.cell (p:=⟨b,o+i * 3,none⟩) hd).trans p0;have q1:=(HB.o.cell (p:=⟨b,o+i * 3+1,none⟩) hd).trans p1;have q2:=(HB.o.cell (p:=⟨b,o+i * 3+2,none⟩) hd).trans p2;have ha:=aL hlt;have hb:(f.take i).length=i:=(by rw [bG];omega);have CK:=zW (fun (W:World) (hW:Below wo.heap.size wo W)=>by
    have hr:=RdE.take (RdE.below H1.o hW yQ) i (cS hlt);have:=Z2r (f.take i) (some ⟨b,o,none⟩) c f[i].k f[i].t f[i].d W (by rw [hb];exact hr) (by rw [hb];omega) (HV.o.wf _ ha) (fun hk=>⟨(Q8n f i f[i] HV.o.nrm (aF hlt) hk).1,(Q8n f i f[i] HV.o.nrm (aF hlt) hk).2,Z8p f HV.o.nrm i hlt hk⟩) (hf.o _ ha) (fun y hy=>hf.o y (bY hy)) (V2s f HV.o.fit i hlt);rw [hb] at this;exact this)
   clear p0 p1 p2 ha hb;generalize f[i]=x at q0 q1 q2 CK;obtain ⟨xk,xt,xd⟩:=x;simp only at q0 q1 q2 CK;have hm:=HB.o.size;go_upto_region 6 with fail
   go_region_with (go_at_call 92;refine (CK.o _ (by exact Q1 HB.o 1)).mono ?_;rintro e w2 ⟨rfl,hg⟩;have hh:=zW ((Q1 HB.o 1).trans (hg.mono hm));clear hg)
   all_goals (
    go_wp2_with fail
    go_roundg (f.length - (i+1))
    case measure=>omega
    case rel=>exact ⟨i+1,rfl,hlt,hh.o,yQ⟩)
  ·obtain rfl:i=f.length:=yY;go_wp2_with fail
   first | go_ret | skip
   rw [he.o];rw [hc.o] at HB;exact ⟨rfl,HB.o⟩
theorem I5 (a b:List UInt8):ofL (a++b)=ofL a++ofL b:=by
 apply cB;apply bX.1;simp [ofL]
theorem U1y (c:UInt8) (w:World):Calls prog 52 #[.int .i64 1,.int .u8 (c.toNat:Int)] w fun e w'=>e=.returned (.string (ofL (N5 1 c)))∧Below w.heap.size w w':=by
 have HB:=zW ((aB w.heap.size w).alloc yQ (.cells #[.int .u8 (c.toNat:Int)] 5));have ha:=T7 w c;by_cases e60:c=60
 ·have HE:yK (N5 1 c=[38,108,116,59]):=(by show _=_;rw [e60];decide);have n60:((c.toNat:Int)==60)=true:=(by rw [e60];rfl);clear e60;go_enter func52,ntmps52
  go_wp2_with fail
  first | go_ret | skip
  refine ⟨?_,HB.o⟩;rw [HE.o];rfl
 ·skip
  by_cases e38:c=38
  ·have HE:yK (N5 1 c=[38,97,109,112,59]):=(by show _=_;rw [e38];decide);have n60:((c.toNat:Int)==60)=false:=Y2 c 60 e60;have n38:((c.toNat:Int)==38)=true:=(by rw [e38];rfl);clear e60 e38;go_enter func52,ntmps52
   go_wp2_with fail
   first | go_ret | skip
   refine ⟨?_,HB.o⟩;rw [HE.o];rfl
  ·skip
   by_cases e123:c=123
   ·have HE:yK (N5 1 c=[38,108,98,59]):=(by show _=_;rw [e123];decide);have n60:((c.toNat:Int)==60)=false:=Y2 c 60 e60;have n38:((c.toNat:Int)==38)=false:=Y2 c 38 e38;have n123:((c.toNat:Int)==123)=true:=(by rw [e123];rfl);clear e60 e38 e123;go_enter func52,ntmps52
    go_wp2_with fail
    first | go_ret | skip
    refine ⟨?_,HB.o⟩;rw [HE.o];rfl
   ·skip
    have HE:yK (N5 1 c=[c]):=by
     show _=_;unfold N5;rw [aK rfl,aE e60,aE e38,aE e123]
    have n60:((c.toNat:Int)==60)=false:=Y2 c 60 e60;have n38:((c.toNat:Int)==38)=false:=Y2 c 38 e38;have n123:((c.toNat:Int)==123)=false:=Y2 c 123 e123;clear e60 e38 e123;go_enter func52,ntmps52
    go_wp2_with fail
    first | go_ret | skip
    refine ⟨?_,HB.o⟩;rw [HE.o];rfl
theorem U1z (c:UInt8) (w:World):Calls prog 52 #[.int .i64 2,.int .u8 (c.toNat:Int)] w fun e w'=>e=.returned (.string (ofL (N5 2 c)))∧Below w.heap.size w w':=by
 have HB:=zW ((aB w.heap.size w).alloc yQ (.cells #[.int .u8 (c.toNat:Int)] 5));have ha:=T7 w c;by_cases e10:c=10
 ·have HE:yK (N5 2 c=[92,110]):=(by show _=_;rw [e10];decide);have n10:((c.toNat:Int)==10)=true:=(by rw [e10];rfl);clear e10;go_enter func52,ntmps52
  go_wp2_with fail
  first | go_ret | skip
  refine ⟨?_,HB.o⟩;rw [HE.o];rfl
 ·skip
  by_cases e9:c=9
  ·have HE:yK (N5 2 c=[92,116]):=(by show _=_;rw [e9];decide);have n10:((c.toNat:Int)==10)=false:=Y2 c 10 e10;have n9:((c.toNat:Int)==9)=true:=(by rw [e9];rfl);clear e10 e9;go_enter func52,ntmps52
   go_wp2_with fail
   first | go_ret | skip
   refine ⟨?_,HB.o⟩;rw [HE.o];rfl
  ·skip
   by_cases e13:c=13
   ·have HE:yK (N5 2 c=[92,114]):=(by show _=_;rw [e13];decide);have n10:((c.toNat:Int)==10)=false:=Y2 c 10 e10;have n9:((c.toNat:Int)==9)=false:=Y2 c 9 e9;have n13:((c.toNat:Int)==13)=true:=(by rw [e13];rfl);clear e10 e9 e13;go_enter func52,ntmps52
    go_wp2_with fail
    first | go_ret | skip
    refine ⟨?_,HB.o⟩;rw [HE.o];rfl
   ·skip
    by_cases e92:c=92
    ·have HE:yK (N5 2 c=[92,92]):=(by show _=_;rw [e92];decide);have n10:((c.toNat:Int)==10)=false:=Y2 c 10 e10;have n9:((c.toNat:Int)==9)=false:=Y2 c 9 e9;have n13:((c.toNat:Int)==13)=false:=Y2 c 13 e13;have n92:((c.toNat:Int)==92)=true:=(by rw [e92];rfl);have HC:=zW e92;clear e10 e9 e13 e92;go_enter func52,ntmps52
     go_wp2_with fail
     first | go_ret | skip
     refine ⟨?_,HB.o⟩;rw [HE.o];rw [HC.o];rfl
    ·skip
     by_cases e123:c=123
     ·have HE:yK (N5 2 c=[92,123]):=(by show _=_;rw [e123];decide);have n10:((c.toNat:Int)==10)=false:=Y2 c 10 e10;have n9:((c.toNat:Int)==9)=false:=Y2 c 9 e9;have n13:((c.toNat:Int)==13)=false:=Y2 c 13 e13;have n92:((c.toNat:Int)==92)=false:=Y2 c 92 e92;have n123:((c.toNat:Int)==123)=true:=(by rw [e123];rfl);have HC:=zW e123;clear e10 e9 e13 e92 e123;go_enter func52,ntmps52
      go_wp2_with fail
      first | go_ret | skip
      refine ⟨?_,HB.o⟩;rw [HE.o];rw [HC.o];rfl
     ·skip
      have HE:yK (N5 2 c=[c]):=by
       show _=_;unfold N5;rw [aE yX,aK rfl,aE e10,aE e9,aE e13,aE e92,aE e123]
      have n10:((c.toNat:Int)==10)=false:=Y2 c 10 e10;have n9:((c.toNat:Int)==9)=false:=Y2 c 9 e9;have n13:((c.toNat:Int)==13)=false:=Y2 c 13 e13;have n92:((c.toNat:Int)==92)=false:=Y2 c 92 e92;have n123:((c.toNat:Int)==123)=false:=Y2 c 123 e123;clear e10 e9 e13 e92 e123;go_enter func52,ntmps52
      go_wp2_with fail
      first | go_ret | skip
      refine ⟨?_,HB.o⟩;rw [HE.o];rfl
theorem U2a (c:UInt8) (w:World):Calls prog 52 #[.int .i64 3,.int .u8 (c.toNat:Int)] w fun e w'=>e=.returned (.string (ofL (N5 3 c)))∧Below w.heap.size w w':=by
 have HB:=zW ((aB w.heap.size w).alloc yQ (.cells #[.int .u8 (c.toNat:Int)] 5));have ha:=T7 w c;by_cases e34:c=34
 ·have HE:yK (N5 3 c=[34,34]):=(by show _=_;rw [e34];decide);have n34:((c.toNat:Int)==34)=true:=(by rw [e34];rfl);have HC:=zW e34;clear e34;go_enter func52,ntmps52
  go_wp2_with fail
  first | go_ret | skip
  refine ⟨?_,HB.o⟩;rw [HE.o];rw [HC.o];rfl
 ·skip
  by_cases e123:c=123
  ·have HE:yK (N5 3 c=[123,123]):=(by show _=_;rw [e123];decide);have n34:((c.toNat:Int)==34)=false:=Y2 c 34 e34;have n123:((c.toNat:Int)==123)=true:=(by rw [e123];rfl);have HC:=zW e123;clear e34 e123;go_enter func52,ntmps52
   go_wp2_with fail
   first | go_ret | skip
   refine ⟨?_,HB.o⟩;rw [HE.o];rw [HC.o];rfl
  ·skip
   have HE:yK (N5 3 c=[c]):=by
    show _=_;unfold N5;rw [aE yX,aE yX,aE e34,aE e123]
   have n34:((c.toNat:Int)==34)=false:=Y2 c 34 e34;have n123:((c.toNat:Int)==123)=false:=Y2 c 123 e123;clear e34 e123;go_enter func52,ntmps52
   go_wp2_with fail
   first | go_ret | skip
   refine ⟨?_,HB.o⟩;rw [HE.o];rfl
theorem Z9t (fmt:Int) (hf:D1 fmt) (c:UInt8) (w:World):Calls prog 52 #[.int .i64 fmt,.int .u8 (c.toNat:Int)] w fun e w'=>e=.returned (.string (ofL (N5 fmt c)))∧Below w.heap.size w w':=by
 rcases hf with rfl | rfl | rfl
 ·exact U1y c w
 ·exact U1z c w
 ·exact U2a c w
end Go.Proofs.YtfkojnofbpdjdaaGreatDoor
