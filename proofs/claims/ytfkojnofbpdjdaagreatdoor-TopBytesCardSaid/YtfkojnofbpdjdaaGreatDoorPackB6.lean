/-
  Contracts and plain laws that this claim leans on, part 6.
-/
import Derived.Test.YtfkojnofbpdjdaaGreatDoorPackB5
import Derived.Test.YtfkojnofbpdjdaaGreatDoorPackB4
import Derived.Test.YtfkojnofbpdjdaaGreatDoorPackB2
import Derived.Test.YtfkojnofbpdjdaaGreatDoorPackB1
import Derived.Test.YtfkojnofbpdjdaaGreatDoorPackB3
set_option linter.unusedVariables false
set_option linter.unusedSimpArgs false
set_option maxHeartbeats 16000000
set_option maxRecDepth 100000
namespace Go.Proofs.YtfkojnofbpdjdaaGreatDoor
open Tryz
open Go.RowKit
theorem V3l:(⟨#[60,112,62,83,97,118,101,46,32,60,98,62,82,101,100,60,47,98,62,32,99,97,114,33,60,47,112,62]⟩:fY)=ofL (Y0 Q0l):=by rw [Y4h,Y4g];rfl
theorem Z8m:ofL (Y0 X1q)=(⟨#[60,112,62,83,105,99,104,101,114,110,46,32,60,98,62,82,101,100,60,47,98,62,32,99,97,114,33,60,47,112,62]⟩:fY):=by rw [X8b];rfl
theorem Z7x {a:Act} {w:World} {o:Oper} (t:fY) (ho:o.op=.build 31 #[(0,.const (.int .i64 1)),(1,.const (.string t))]):(execOp a.eval o).run prog w=.ok (.value (.agg #[.int .i64 1,.string t,.int .i64 0])) w:=by
 have h1:a.eval (.const (.int .i64 1))=.int .i64 1:=rfl;have h2:a.eval (.const (.string t))=.string t:=rfl;generalize a.eval=ρ at h1 h2 ⊢;unfold execOp;simp only [ho];go_simp
theorem X1i {a:Act} {w:World} {o:Oper} (x:Operand) (t:fY) (ho:o.op=.buildSlice 24 1 #[(0,x)]) (hx:a.eval x=.agg #[.int .i64 1,.string t,.int .i64 0]):(execOp a.eval o).run prog w=.ok (.value (.slice (some ⟨w.heap.size,0,none⟩) 1 1)) (w.alloc (.cells #[.int .i64 1,.string t,.int .i64 0] 31)):=by
 generalize a.eval=ρ at hx ⊢;unfold execOp;simp only [ho];go_simp
theorem X1h {a:Act} {w:World} {o:Oper} (x:Operand) (A:Option Addr) (n c:Nat) (ho:o.op=.buildSlice 48 1 #[(0,x)]) (hx:a.eval x=.slice A n c):(execOp a.eval o).run prog w=.ok (.value (.slice (some ⟨w.heap.size,0,none⟩) 1 1)) (w.alloc (.cells #[.slice A n c] 24)):=by
 generalize a.eval=ρ at hx ⊢;unfold execOp;simp only [ho];go_simp
theorem Y1x {P:Program} {w:World} {a:Act} {o:Oper} {f:FuncId} {x y z u:Operand} (ts:Array TypeId) {vx vy vz vu:Value} (ho:o.op=.call { callee:=.value (.func f),args:=#[x,y,z,u],argTypes:=ts }) (hx:a.eval x=vx) (hy:a.eval y=vy) (hz:a.eval z=vz) (hu:a.eval u=vu) (he:(callFunc f #[vx,vy,vz,vu]).run P w=.ok (.enter f #[vx,vy,vz,vu]) w):(execOp a.eval o).run P w=.ok (.enter f #[vx,vy,vz,vu]) w:=by
 have hf:a.eval (.func f)=.func (.func f) #[] #[]:=rfl;generalize a.eval=ρ at hx hy hz hu hf ⊢;unfold execOp;simp only [ho];go_simp
theorem X2j (w:World) (gi:Nat) (f:List Tk) (hf:f.length=1) (h:RdT w (.slice (some ⟨gi,0,none⟩) 1 1) f):RdTT (w.alloc (.cells #[.slice (some ⟨gi,0,none⟩) 1 1] 24)) (.slice (some ⟨w.heap.size,0,none⟩) 1 1) [f]:=by
 refine ⟨_,1,rfl,fun _=>⟨_,_,rfl,by simp,fun i x hi=>?_⟩⟩;have ha:(w.alloc (.cells #[.slice (some ⟨gi,0,none⟩) 1 1] 24)).heap[w.heap.size]? =some (.cells #[.slice (some ⟨gi,0,none⟩) 1 1] 24):=aY;rcases i with _ | i
 ·simp at hi;subst hi;exact ⟨some ⟨gi,0,none⟩,1,by rw [bV _ _ _ _ _ _ ha,hf];rfl,by rw [hf];exact RdE.below h ((aB w.heap.size w).alloc yQ _) yQ⟩
 ·simp at hi
theorem X5n:V1b [G8]:=⟨yX,fun r hr=>by
 rw [aJ.1 hr];refine ⟨⟨yX,yX⟩,fun x hx=>?_,fun x hx=>?_⟩<;>(obtain rfl:=aJ.1 hx;exact ⟨yX,rfl⟩)⟩
theorem Y5n (m:Int) (w:World) (hm:w.cell? ⟨0,0,none⟩=some (.int .i64 m)):
 Calls prog 7 #[] w (fun e w'=>e=.returned (.bool true)∧Below w.heap.size w w'):=by
 have he:Y0x m 1 (⟨#[60,112,62,83,97,118,101,46,32,60,98,62,82,101,100,60,47,98,62,32,99,97,114,33,60,47,112,62]⟩:fY) Q0l:=(by rw [V3l];exact V3o m);obtain ⟨n,hd⟩:=U1q m;have CP:=zW (X7i m 1 (.inl rfl) _ Q0l he w hm);have CC:=zW (fun (A:Option Addr) (c:Nat) (W:World) (hW:Below w.heap.size w W) (hr:RdE ptC 3 W (.slice A Q0l.length c) Q0l)=>Q6o m 1 (.inl rfl) Q0l knF 1 yX rfl (by rw [U1n,←V8m];exact hd.dec) A c W (X8 hm hW) hr yX);have CS:=zW (fun W=>Z0a W);have CR:=zW (fun (vr v:Value) (W:World) (h1:RdRu W vr [G8]) (h2:RdT W v knF)=>X9d [G8] vr knF v W h1 X5n h2 yX yX);rw [Z8o] at CR;rw [Y7v] at CC;have CRP:=zW (fun (A:Option Addr) (c b5 o5 c5:Nat) (gt:Nat) (W:World) (hW:Below w.heap.size w W) (hp:RdE ptC 3 W (.slice A 3 c) Q0l) (hs:RdE Y9 2 W (.slice (some ⟨b5,o5,none⟩) 2 c5) [(0,5),(6,16)]) (ht:RdTT W (.slice (some ⟨gt,0,none⟩) 1 1) [knG])=>
  (X5m hd A (some ⟨b5,o5,none⟩) (some ⟨gt,0,none⟩) c c5 1 W (X8 hm hW) hp (RdE.take hs 1 yX) ht:Calls prog 32 #[.agg #[.int .i64 1,.slice A 3 c],.int .i64 1,.slice (some ⟨b5,o5,none⟩) 1 c5,.slice (some ⟨gt,0,none⟩) 1 1] W (fun e w'=>∃ A' c',e=.returned (.tuple #[.agg #[.int .i64 1,.slice A' 3 c'],.int .i64 0])∧OwnE 52 ptC 3 w' W.heap.size (.slice A' 3 c') X1q∧Below W.heap.size W w')))
 have CB:=zW (fun (A:Option Addr) (c:Nat) (W:World) (h:RdE ptC 3 W (.slice A 3 c) X1q)=>Q4b 1 X1q A c W h yX (by rw [X8b];decide));rw [Z8m] at CB;have HM:=zW hm;clear hm he;go_enter func7,ntmps7
 go_wp2_with (first
  | (go_at_call 28;refine (CP.o).mono ?_;rintro e W1 ⟨A,c,rfl,hu,hM⟩;rw [Y7v] at hu ⊢;have hC:=zW (OwnE.rd D3 hu);have hk:=zW hM;have hq:=zW (RdE.below hC.o ((aB W1.heap.size W1).alloc yQ (.cells #[.int .i64 1,.slice A 3 c] 41)) yQ);have hf:=zW (hk.o.alloc hk.o.size (.cells #[.int .i64 1,.slice A 3 c] 41));have hI:yK ((W1.alloc (.cells #[.int .i64 1,.slice A 3 c] 41)).heap[W1.heap.size]? =some (.cells #[.int .i64 1,.slice A 3 c] 41)):=aT W1 _;clear hu hM)
  | (go_at_call 27;refine (CC.o A c _ (by exact hf.o) (by exact hq.o)).mono ?_;rintro e W3 ⟨v3,rfl,hw,hh⟩;obtain ⟨A3,c3,rfl⟩:=Q0 hw;have hA:=zW (OwnE.rd Q5 hw);have hD:=zW (RdE.below hq.o hh yQ);have hl:=zW (hf.o.trans (hh.mono hf.o.size));have hJ:=zW (Q9 hI.o hh);clear hw hh)
  | (go_at_call 19;refine (CS.o _).mono ?_;rintro e W4 ⟨v4,rfl,hO,ha⟩;have hG:=zW hO;have hB:=zW (RdE.below hA.o ha yQ);have hE:=zW (RdE.below hD.o ha yQ);have hn:=zW (hl.o.trans (ha.mono hl.o.size));have hK:=zW (Q9 hJ.o ha);clear hO ha)
  | (go_at_call 31;refine (CR.o _ _ _ (by exact hG.o) (by exact hB.o)).mono ?_;rintro e W5 ⟨v5,rfl,hx,hi⟩;obtain ⟨A5,c5,rfl⟩:=Q0 hx;have hg:=zW (OwnE.rd Q0n hx);have hF:=zW (RdE.below hE.o hi yQ);have hy:=zW (hn.o.trans (hi.mono hn.o.size));have hL:=zW (Q9 hK.o hi);obtain ⟨b5,o5,rfl,_,q0,q1⟩:=X9j hg.o 1 yX;clear hx hi))
 have hU:1≤c5:=by
  obtain ⟨_,_,hv,hc,_⟩:=hg.o;injection hv with _ _ e;subst e;exact aP yX hc
 have hV:¬ ((c5:Int) < 1):=yY;have hP:yK (Below w.heap.size w W5.drew):=hy.o.drew;have hH:yK (W5.drew.heap[W1.heap.size]? =some (.cells #[.int .i64 1,.slice A 3 c] 41)):=hL.o;have hR:=zW (RdE.below hF.o ((aB W5.heap.size W5).drew) yQ);have hT:=zW (RdE.below hg.o ((aB W5.heap.size W5).drew) yQ);generalize W1.heap.size=g at hH ⊢;replace CRP:=zW (fun gt W=>CRP.o A c b5 o5 c5 gt W)
 clear hy hL hF hg hn hK hE hB hl hJ hD hA hf hI hq hk hC hG q0 q1;refine zqR (l0:=bL 13 0) 13 kr ?_;show let o:=_;let q:=_;let a0:=_;wpAny prog _ o q _ _ a0 _
 intro o q a0;let a_:Act:=((a0.put (some 40) (.slice (some ⟨b5,o5,none⟩) 2 c5)).put (some 41) (.slice (some ⟨b5,o5,none⟩) 1 c5)).put (some 42) (.agg #[.int .i64 1,.string (⟨#[83,105,99,104,101,114,110,46]⟩:fY),.int .i64 0])
 let a_0:Act:=a_.put (some 39) (.agg #[.int .i64 1,.slice A 3 c])
 let a_1:Nat→Act:=fun gi=>a_.put (some 43) (.slice (some ⟨gi,0,none⟩) 1 1)
 let a_4:Nat→Act:=fun g7=>a_.put (some 7) (.pointer (some ⟨g7,0,none⟩))
 let a_01:Nat→Act:=fun gi=>a_0.put (some 43) (.slice (some ⟨gi,0,none⟩) 1 1)
 let a_04:Nat→Act:=fun g7=>a_0.put (some 7) (.pointer (some ⟨g7,0,none⟩))
 let a_12:Nat→Nat→Act:=fun gi gt=>(a_1 gi).put (some 44) (.slice (some ⟨gt,0,none⟩) 1 1)
 let a_14:Nat→Nat→Act:=fun gi g7=>(a_1 gi).put (some 7) (.pointer (some ⟨g7,0,none⟩))
 let a_012:Nat→Nat→Act:=fun gi gt=>(a_01 gi).put (some 44) (.slice (some ⟨gt,0,none⟩) 1 1)
 let a_014:Nat→Nat→Act:=fun gi g7=>(a_01 gi).put (some 7) (.pointer (some ⟨g7,0,none⟩))
 let a_124:Nat→Nat→Nat→Act:=fun gi gt g7=>(a_12 gi gt).put (some 7) (.pointer (some ⟨g7,0,none⟩))
 let a_0123:Nat→Nat→Option Addr→Nat→Act:=fun gi gt A8 c8=>((((a_012 gi gt).put (some 45) (.tuple #[.agg #[.int .i64 1,.slice A8 3 c8],.int .i64 0])).put (some 38) (.tuple #[.agg #[.int .i64 1,.slice A8 3 c8],.int .i64 0])).put (some 46) (.agg #[.int .i64 1,.slice A8 3 c8])).put (some 47) (.int .i64 0)
 let a_0124:Nat→Nat→Nat→Act:=fun gi gt g7=>(a_012 gi gt).put (some 7) (.pointer (some ⟨g7,0,none⟩))
 let a_01234:Nat→Nat→Option Addr→Nat→Nat→Act:=fun gi gt A8 c8 g7=>(a_0123 gi gt A8 c8).put (some 7) (.pointer (some ⟨g7,0,none⟩))
 let a_012345:Nat→Nat→Option Addr→Nat→Nat→Act:=fun gi gt A8 c8 g7=>(a_01234 gi gt A8 c8 g7).put (some 8) (.int .i64 0)
 have S012345:∀ (W:World) (gi:Nat) (gt:Nat) (A8:Option Addr) (c8:Nat) (g7:Nat),Below w.heap.size w W→W.heap[g7]? =some (.cells #[.int .i64 1,.slice A8 3 c8] 41)→OwnE 52 ptC 3 W w.heap.size (.slice A8 3 c8) X1q→wpAny prog .any o q 0 (bL 13 8191) (a_012345 gi gt A8 c8 g7) W:=by
  intro W gi gt A8 c8 g7 HB HG HO;simp only [a_012345,a_01234,a_0123,a_012,a_01,a_0,a_,a0,Act.put,zZ,zY,zX];refine bW yZ ?_ _;simp only [q];obtain ⟨z0,z1,_⟩:=bx2 HG;have hS:=zW (OwnE.rd D3 HO);have hz:=zW HB;clear HB HO HG;go_wp2_with (go_at_call 24;refine (CB.o _ _ _ (by exact hS.o)).mono ?_;rintro e V9 ⟨rfl,hN⟩;have hQ:=zW (hz.o.trans (hN.mono hz.o.size));clear hN)
  go_ret
  exact ⟨rfl,hQ.o⟩
 have S01234:∀ (W:World) (gi:Nat) (gt:Nat) (A8:Option Addr) (c8:Nat) (g7:Nat),Below w.heap.size w W→W.heap[g7]? =some (.cells #[.int .i64 0,.slice none 0 0] 41)→w.heap.size≤g7→OwnE 52 ptC 3 W w.heap.size (.slice A8 3 c8) X1q→wpAny prog .any o q 2 (bL 13 2047) (a_01234 gi gt A8 c8 g7) W:=by
  intro W gi gt A8 c8 g7 HB HG hg7 HO;simp only [a_01234,a_0123,a_012,a_01,a_0,a_,a0,Act.put,zZ,zY,zX];refine zqo 11 rfl ?_;refine X4z (.tmp 7) (.tmp 46) rfl rfl g7 1 A8 3 c8 yZ yZ HG ?_;refine zqG 12 8 (.int .i64 0) rfl ?_;exact zqX (S012345 ((W.setCell ⟨g7,0,none⟩ (.int .i64 1)).setCell ⟨g7,1,none⟩ (.slice A8 3 c8)) gi gt A8 c8 g7 ((HB.setCell (p:=⟨g7,0,none⟩) hg7 _).setCell (p:=⟨g7,1,none⟩) hg7 _) (Q8x HG) (Q7 HO fun j hj=>O3 (fun e=>Y1 HO HG yX j hj e)))
 have S0123:∀ (W:World) (gi:Nat) (gt:Nat) (A8:Option Addr) (c8:Nat),Below w.heap.size w W→OwnE 52 ptC 3 W w.heap.size (.slice A8 3 c8) X1q→wpAny prog .any o q 3 (bL 13 1023) (a_0123 gi gt A8 c8) W:=by
  intro W gi gt A8 c8 HB HO;simp only [a_0123,a_012,a_01,a_0,a_,a0,Act.put,zZ,zY,zX];refine zqo 10 rfl ?_;refine X1 (J2 rfl) ?_;exact zqX (S01234 (W.alloc (.cells #[.int .i64 0,.slice none 0 0] 41)) gi gt A8 c8 W.heap.size (HB.trans (((aB W.heap.size W).alloc yQ _).mono HB.size)) (aT W _) HB.size (Q7h HO ((aB W.heap.size W).alloc yQ _)))
 have S0124:∀ (W:World) (gi:Nat) (gt:Nat) (g7:Nat),Below w.heap.size w W→RdE ptC 3 W (.slice A 3 c) Q0l→RdE Y9 2 W (.slice (some ⟨b5,o5,none⟩) 2 c5) [(0,5),(6,16)]→RdTT W (.slice (some ⟨gt,0,none⟩) 1 1) [knG]→W.heap[g7]? =some (.cells #[.int .i64 0,.slice none 0 0] 41)→w.heap.size≤g7→wpAny prog .any o q 6 (bL 13 1087) (a_0124 gi gt g7) W:=by
  intro W gi gt g7 HB HP HS HT HG hg7;simp only [a_0124,a_012,a_01,a_0,a_,a0,Act.put,zZ,zY,zX];refine zqo 6 rfl ?_;refine J1 (Y1x _ rfl yZ yZ yZ yZ (enters_of func32 yZ rfl _ _)) (CRP.o gt W HB HP HS HT) ?_;rintro e W5 ⟨A8,c8,rfl,ho,hb⟩;refine ⟨.tuple #[.agg #[.int .i64 1,.slice A8 3 c8],.int .i64 0],rfl,?_⟩;refine zqM 7 38 (.tuple #[.agg #[.int .i64 1,.slice A8 3 c8],.int .i64 0]) rfl ?_;refine zqE 8 46 (.agg #[.int .i64 1,.slice A8 3 c8]) rfl rfl ?_;refine zqE 9 47 (.int .i64 0) rfl rfl ?_;exact zqX (S01234 W5 gi gt A8 c8 g7 (HB.trans (hb.mono HB.size)) (Q9 HG hb) hg7 (Y3 ho HB.size))
 have S012:∀ (W:World) (gi:Nat) (gt:Nat),Below w.heap.size w W→RdE ptC 3 W (.slice A 3 c) Q0l→RdE Y9 2 W (.slice (some ⟨b5,o5,none⟩) 2 c5) [(0,5),(6,16)]→RdTT W (.slice (some ⟨gt,0,none⟩) 1 1) [knG]→wpAny prog .any o q 7 (bL 13 63) (a_012 gi gt) W:=by
  intro W gi gt HB HP HS HT;simp only [a_012,a_01,a_0,a_,a0,Act.put,zZ,zY,zX];refine zqt 6 10 rfl rfl ?_ ?_
  ·refine J1 (Y1x _ rfl yZ yZ yZ yZ (enters_of func32 yZ rfl _ _)) (CRP.o gt W HB HP HS HT) ?_;rintro e W5 ⟨A8,c8,rfl,ho,hb⟩;refine ⟨.tuple #[.agg #[.int .i64 1,.slice A8 3 c8],.int .i64 0],rfl,?_⟩;refine zqM 7 38 (.tuple #[.agg #[.int .i64 1,.slice A8 3 c8],.int .i64 0]) rfl ?_;refine zqE 8 46 (.agg #[.int .i64 1,.slice A8 3 c8]) rfl rfl ?_;refine zqE 9 47 (.int .i64 0) rfl rfl ?_;exact zqX (S0123 W5 gi gt A8 c8 (HB.trans (hb.mono HB.size)) (Y3 ho HB.size))
  ·refine X1 (J2 rfl) ?_;exact zqX (S0124 (W.alloc (.cells #[.int .i64 0,.slice none 0 0] 41)) gi gt W.heap.size (HB.trans (((aB W.heap.size W).alloc yQ _).mono HB.size)) (RdE.below HP ((aB W.heap.size W).alloc yQ _) yQ) (RdE.below HS ((aB W.heap.size W).alloc yQ _) yQ) (RdTT.below HT ((aB W.heap.size W).alloc yQ _) yQ) (aT W _) HB.size)
 have S014:∀ (W:World) (gi:Nat) (g7:Nat),Below w.heap.size w W→RdE ptC 3 W (.slice A 3 c) Q0l→RdE Y9 2 W (.slice (some ⟨b5,o5,none⟩) 2 c5) [(0,5),(6,16)]→RdT W (.slice (some ⟨gi,0,none⟩) 1 1) knG→W.heap[g7]? =some (.cells #[.int .i64 0,.slice none 0 0] 41)→w.heap.size≤g7→wpAny prog .any o q 7 (bL 13 1055) (a_014 gi g7) W:=by
  intro W gi g7 HB HP HS HI HG hg7;simp only [a_014,a_01,a_0,a_,a0,Act.put,zZ,zY,zX];refine zqo 5 rfl ?_;refine X1 (X1h (.tmp 43) (some ⟨gi,0,none⟩) 1 1 rfl yZ) ?_;exact zqX (S0124 (W.alloc (.cells #[.slice (some ⟨gi,0,none⟩) 1 1] 24)) gi W.heap.size g7 (HB.trans (((aB W.heap.size W).alloc yQ _).mono HB.size)) (RdE.below HP ((aB W.heap.size W).alloc yQ _) yQ) (RdE.below HS ((aB W.heap.size W).alloc yQ _) yQ) (X2j W gi knG rfl HI) (Q9 HG ((aB W.heap.size W).alloc yQ _)) hg7)
 have S124:∀ (W:World) (gi:Nat) (gt:Nat) (g7:Nat),Below w.heap.size w W→W.heap[g]? =some (.cells #[.int .i64 1,.slice A 3 c] 41)→RdE ptC 3 W (.slice A 3 c) Q0l→RdE Y9 2 W (.slice (some ⟨b5,o5,none⟩) 2 c5) [(0,5),(6,16)]→RdTT W (.slice (some ⟨gt,0,none⟩) 1 1) [knG]→W.heap[g7]? =some (.cells #[.int .i64 0,.slice none 0 0] 41)→w.heap.size≤g7→wpAny prog .any o q 7 (bL 13 1086) (a_124 gi gt g7) W:=by
  intro W gi gt g7 HB HX HP HS HT HG hg7;simp only [a_124,a_12,a_1,a_,a0,Act.put,zZ,zY,zX];refine zqo 0 rfl ?_;refine zqL (.agg #[.int .i64 1,.slice A 3 c]) rfl (.pointer (some ⟨g,0,none⟩)) (Q0u (bx2 HX).1 (bx2 HX).2.1) ?_;exact zqX (S0124 W gi gt g7 HB HP HS HT HG hg7)
 have S01:∀ (W:World) (gi:Nat),Below w.heap.size w W→RdE ptC 3 W (.slice A 3 c) Q0l→RdE Y9 2 W (.slice (some ⟨b5,o5,none⟩) 2 c5) [(0,5),(6,16)]→RdT W (.slice (some ⟨gi,0,none⟩) 1 1) knG→wpAny prog .any o q 8 (bL 13 31) (a_01 gi) W:=by
  intro W gi HB HP HS HI;simp only [a_01,a_0,a_,a0,Act.put,zZ,zY,zX];refine zqt 5 10 rfl rfl ?_ ?_
  ·refine X1 (X1h (.tmp 43) (some ⟨gi,0,none⟩) 1 1 rfl yZ) ?_;exact zqX (S012 (W.alloc (.cells #[.slice (some ⟨gi,0,none⟩) 1 1] 24)) gi W.heap.size (HB.trans (((aB W.heap.size W).alloc yQ _).mono HB.size)) (RdE.below HP ((aB W.heap.size W).alloc yQ _) yQ) (RdE.below HS ((aB W.heap.size W).alloc yQ _) yQ) (X2j W gi knG rfl HI))
  ·refine X1 (J2 rfl) ?_;exact zqX (S014 (W.alloc (.cells #[.int .i64 0,.slice none 0 0] 41)) gi W.heap.size (HB.trans (((aB W.heap.size W).alloc yQ _).mono HB.size)) (RdE.below HP ((aB W.heap.size W).alloc yQ _) yQ) (RdE.below HS ((aB W.heap.size W).alloc yQ _) yQ) (RdE.below HI ((aB W.heap.size W).alloc yQ _) yQ) (aT W _) HB.size)
 have S04:∀ (W:World) (g7:Nat),Below w.heap.size w W→RdE ptC 3 W (.slice A 3 c) Q0l→RdE Y9 2 W (.slice (some ⟨b5,o5,none⟩) 2 c5) [(0,5),(6,16)]→W.heap[g7]? =some (.cells #[.int .i64 0,.slice none 0 0] 41)→w.heap.size≤g7→wpAny prog .any o q 8 (bL 13 1039) (a_04 g7) W:=by
  intro W g7 HB HP HS HG hg7;simp only [a_04,a_0,a_,a0,Act.put,zZ,zY,zX];refine zqo 4 rfl ?_;refine X1 (X1i (.tmp 42) (⟨#[83,105,99,104,101,114,110,46]⟩:fY) rfl yZ) ?_;exact zqX (S014 (W.alloc (.cells #[.int .i64 1,.string (⟨#[83,105,99,104,101,114,110,46]⟩:fY),.int .i64 0] 31)) W.heap.size g7 (HB.trans (((aB W.heap.size W).alloc yQ _).mono HB.size)) (RdE.below HP ((aB W.heap.size W).alloc yQ _) yQ) (RdE.below HS ((aB W.heap.size W).alloc yQ _) yQ) (Z3 tkC 3 Q5 W _ rfl ⟨1,(⟨#[83,105,99,104,101,114,110,46]⟩:fY),0⟩ _) (Q9 HG ((aB W.heap.size W).alloc yQ _)) hg7)
 have S12:∀ (W:World) (gi:Nat) (gt:Nat),Below w.heap.size w W→W.heap[g]? =some (.cells #[.int .i64 1,.slice A 3 c] 41)→RdE ptC 3 W (.slice A 3 c) Q0l→RdE Y9 2 W (.slice (some ⟨b5,o5,none⟩) 2 c5) [(0,5),(6,16)]→RdTT W (.slice (some ⟨gt,0,none⟩) 1 1) [knG]→wpAny prog .any o q 8 (bL 13 62) (a_12 gi gt) W:=by
  intro W gi gt HB HX HP HS HT;simp only [a_12,a_1,a_,a0,Act.put,zZ,zY,zX];refine zqt 0 10 rfl rfl ?_ ?_
  ·refine zqL (.agg #[.int .i64 1,.slice A 3 c]) rfl (.pointer (some ⟨g,0,none⟩)) (Q0u (bx2 HX).1 (bx2 HX).2.1) ?_;exact zqX (S012 W gi gt HB HP HS HT)
  ·refine X1 (J2 rfl) ?_;exact zqX (S124 (W.alloc (.cells #[.int .i64 0,.slice none 0 0] 41)) gi gt W.heap.size (HB.trans (((aB W.heap.size W).alloc yQ _).mono HB.size)) (Q9 HX ((aB W.heap.size W).alloc yQ _)) (RdE.below HP ((aB W.heap.size W).alloc yQ _) yQ) (RdE.below HS ((aB W.heap.size W).alloc yQ _) yQ) (RdTT.below HT ((aB W.heap.size W).alloc yQ _) yQ) (aT W _) HB.size)
 have S14:∀ (W:World) (gi:Nat) (g7:Nat),Below w.heap.size w W→W.heap[g]? =some (.cells #[.int .i64 1,.slice A 3 c] 41)→RdE ptC 3 W (.slice A 3 c) Q0l→RdE Y9 2 W (.slice (some ⟨b5,o5,none⟩) 2 c5) [(0,5),(6,16)]→RdT W (.slice (some ⟨gi,0,none⟩) 1 1) knG→W.heap[g7]? =some (.cells #[.int .i64 0,.slice none 0 0] 41)→w.heap.size≤g7→wpAny prog .any o q 8 (bL 13 1054) (a_14 gi g7) W:=by
  intro W gi g7 HB HX HP HS HI HG hg7;simp only [a_14,a_1,a_,a0,Act.put,zZ,zY,zX];refine zqt 0 5 rfl rfl ?_ ?_
  ·refine zqL (.agg #[.int .i64 1,.slice A 3 c]) rfl (.pointer (some ⟨g,0,none⟩)) (Q0u (bx2 HX).1 (bx2 HX).2.1) ?_;exact zqX (S014 W gi g7 HB HP HS HI HG hg7)
  ·refine X1 (X1h (.tmp 43) (some ⟨gi,0,none⟩) 1 1 rfl yZ) ?_;exact zqX (S124 (W.alloc (.cells #[.slice (some ⟨gi,0,none⟩) 1 1] 24)) gi W.heap.size g7 (HB.trans (((aB W.heap.size W).alloc yQ _).mono HB.size)) (Q9 HX ((aB W.heap.size W).alloc yQ _)) (RdE.below HP ((aB W.heap.size W).alloc yQ _) yQ) (RdE.below HS ((aB W.heap.size W).alloc yQ _) yQ) (X2j W gi knG rfl HI) (Q9 HG ((aB W.heap.size W).alloc yQ _)) hg7)
 have S0:∀ (W:World),Below w.heap.size w W→RdE ptC 3 W (.slice A 3 c) Q0l→RdE Y9 2 W (.slice (some ⟨b5,o5,none⟩) 2 c5) [(0,5),(6,16)]→wpAny prog .any o q 9 (bL 13 15) a_0 W:=by
  intro W HB HP HS;simp only [a_0,a_,a0,Act.put,zZ,zY,zX];refine zqt 4 10 rfl rfl ?_ ?_
  ·refine X1 (X1i (.tmp 42) (⟨#[83,105,99,104,101,114,110,46]⟩:fY) rfl yZ) ?_;exact zqX (S01 (W.alloc (.cells #[.int .i64 1,.string (⟨#[83,105,99,104,101,114,110,46]⟩:fY),.int .i64 0] 31)) W.heap.size (HB.trans (((aB W.heap.size W).alloc yQ _).mono HB.size)) (RdE.below HP ((aB W.heap.size W).alloc yQ _) yQ) (RdE.below HS ((aB W.heap.size W).alloc yQ _) yQ) (Z3 tkC 3 Q5 W _ rfl ⟨1,(⟨#[83,105,99,104,101,114,110,46]⟩:fY),0⟩ _))
  ·refine X1 (J2 rfl) ?_;exact zqX (S04 (W.alloc (.cells #[.int .i64 0,.slice none 0 0] 41)) W.heap.size (HB.trans (((aB W.heap.size W).alloc yQ _).mono HB.size)) (RdE.below HP ((aB W.heap.size W).alloc yQ _) yQ) (RdE.below HS ((aB W.heap.size W).alloc yQ _) yQ) (aT W _) HB.size)
 have S1:∀ (W:World) (gi:Nat),Below w.heap.size w W→W.heap[g]? =some (.cells #[.int .i64 1,.slice A 3 c] 41)→RdE ptC 3 W (.slice A 3 c) Q0l→RdE Y9 2 W (.slice (some ⟨b5,o5,none⟩) 2 c5) [(0,5),(6,16)]→RdT W (.slice (some ⟨gi,0,none⟩) 1 1) knG→wpAny prog .any o q 9 (bL 13 30) (a_1 gi) W:=by
  intro W gi HB HX HP HS HI;simp only [a_1,a_,a0,Act.put,zZ,zY,zX];refine zqh 0 5 10 rfl rfl rfl ?_ ?_ ?_
  ·refine zqL (.agg #[.int .i64 1,.slice A 3 c]) rfl (.pointer (some ⟨g,0,none⟩)) (Q0u (bx2 HX).1 (bx2 HX).2.1) ?_;exact zqX (S01 W gi HB HP HS HI)
  ·refine X1 (X1h (.tmp 43) (some ⟨gi,0,none⟩) 1 1 rfl yZ) ?_;exact zqX (S12 (W.alloc (.cells #[.slice (some ⟨gi,0,none⟩) 1 1] 24)) gi W.heap.size (HB.trans (((aB W.heap.size W).alloc yQ _).mono HB.size)) (Q9 HX ((aB W.heap.size W).alloc yQ _)) (RdE.below HP ((aB W.heap.size W).alloc yQ _) yQ) (RdE.below HS ((aB W.heap.size W).alloc yQ _) yQ) (X2j W gi knG rfl HI))
  ·refine X1 (J2 rfl) ?_;exact zqX (S14 (W.alloc (.cells #[.int .i64 0,.slice none 0 0] 41)) gi W.heap.size (HB.trans (((aB W.heap.size W).alloc yQ _).mono HB.size)) (Q9 HX ((aB W.heap.size W).alloc yQ _)) (RdE.below HP ((aB W.heap.size W).alloc yQ _) yQ) (RdE.below HS ((aB W.heap.size W).alloc yQ _) yQ) (RdE.below HI ((aB W.heap.size W).alloc yQ _) yQ) (aT W _) HB.size)
 have S4:∀ (W:World) (g7:Nat),Below w.heap.size w W→W.heap[g]? =some (.cells #[.int .i64 1,.slice A 3 c] 41)→RdE ptC 3 W (.slice A 3 c) Q0l→RdE Y9 2 W (.slice (some ⟨b5,o5,none⟩) 2 c5) [(0,5),(6,16)]→W.heap[g7]? =some (.cells #[.int .i64 0,.slice none 0 0] 41)→w.heap.size≤g7→wpAny prog .any o q 9 (bL 13 1038) (a_4 g7) W:=by
  intro W g7 HB HX HP HS HG hg7;simp only [a_4,a_,a0,Act.put,zZ,zY,zX];refine zqt 0 4 rfl rfl ?_ ?_
  ·refine zqL (.agg #[.int .i64 1,.slice A 3 c]) rfl (.pointer (some ⟨g,0,none⟩)) (Q0u (bx2 HX).1 (bx2 HX).2.1) ?_;exact zqX (S04 W g7 HB HP HS HG hg7)
  ·refine X1 (X1i (.tmp 42) (⟨#[83,105,99,104,101,114,110,46]⟩:fY) rfl yZ) ?_;exact zqX (S14 (W.alloc (.cells #[.int .i64 1,.string (⟨#[83,105,99,104,101,114,110,46]⟩:fY),.int .i64 0] 31)) W.heap.size g7 (HB.trans (((aB W.heap.size W).alloc yQ _).mono HB.size)) (Q9 HX ((aB W.heap.size W).alloc yQ _)) (RdE.below HP ((aB W.heap.size W).alloc yQ _) yQ) (RdE.below HS ((aB W.heap.size W).alloc yQ _) yQ) (Z3 tkC 3 Q5 W _ rfl ⟨1,(⟨#[83,105,99,104,101,114,110,46]⟩:fY),0⟩ _) (Q9 HG ((aB W.heap.size W).alloc yQ _)) hg7)
 have S:∀ (W:World),Below w.heap.size w W→W.heap[g]? =some (.cells #[.int .i64 1,.slice A 3 c] 41)→RdE ptC 3 W (.slice A 3 c) Q0l→RdE Y9 2 W (.slice (some ⟨b5,o5,none⟩) 2 c5) [(0,5),(6,16)]→wpAny prog .any o q 13 (bL 13 0) a0 W:=by
  intro W HB HX HP HS;simp only [a0,Act.put,zZ,zY,zX];refine zqM 1 40 (.slice (some ⟨b5,o5,none⟩) 2 c5) rfl ?_;refine zzA 2 (.slice (some ⟨b5,o5,none⟩) 1 c5) (some 41) rfl (fun _=>X1j 72 _ _ _ (.slice (some ⟨b5,o5,none⟩) 2 c5) _ none (some (.int .i64 1)) rfl yZ yZ yZ yU) ?_;refine zzA 3 (.agg #[.int .i64 1,.string (⟨#[83,105,99,104,101,114,110,46]⟩:fY),.int .i64 0]) (some 42) rfl (fun _=>Z7x (⟨#[83,105,99,104,101,114,110,46]⟩:fY) rfl) ?_;simp only [Act.put,zZ,zY,zX];refine zqh 0 4 10 rfl rfl rfl ?_ ?_ ?_
  ·refine zqL (.agg #[.int .i64 1,.slice A 3 c]) rfl (.pointer (some ⟨g,0,none⟩)) (Q0u (bx2 HX).1 (bx2 HX).2.1) ?_;exact zqX (S0 W HB HP HS)
  ·refine X1 (X1i (.tmp 42) (⟨#[83,105,99,104,101,114,110,46]⟩:fY) rfl yZ) ?_;exact zqX (S1 (W.alloc (.cells #[.int .i64 1,.string (⟨#[83,105,99,104,101,114,110,46]⟩:fY),.int .i64 0] 31)) W.heap.size (HB.trans (((aB W.heap.size W).alloc yQ _).mono HB.size)) (Q9 HX ((aB W.heap.size W).alloc yQ _)) (RdE.below HP ((aB W.heap.size W).alloc yQ _) yQ) (RdE.below HS ((aB W.heap.size W).alloc yQ _) yQ) (Z3 tkC 3 Q5 W _ rfl ⟨1,(⟨#[83,105,99,104,101,114,110,46]⟩:fY),0⟩ _))
  ·refine X1 (J2 rfl) ?_;exact zqX (S4 (W.alloc (.cells #[.int .i64 0,.slice none 0 0] 41)) W.heap.size (HB.trans (((aB W.heap.size W).alloc yQ _).mono HB.size)) (Q9 HX ((aB W.heap.size W).alloc yQ _)) (RdE.below HP ((aB W.heap.size W).alloc yQ _) yQ) (RdE.below HS ((aB W.heap.size W).alloc yQ _) yQ) (aT W _) HB.size)
 exact S _ hP.o hH.o hR.o hT.o
theorem PcO.other {B:Nat} {w w':World} {v:Value} {ps:List Pc} {ys:List Pv} (h:PcO B w v ps ys) (hg:w.grownBy w' v.ownBlock) {α:Type} {e:TypeId} {f:α→List Value} {m B':Nat} {u:Value} {l:List α} (ho:OwnE e f m w B' u l) (hne:56≠e):OwnE e f m w' B' u l:=
 Q7 ho fun k hk=>hg.block k (ho.lt k hk).2 (fun e=>by
  obtain ⟨cur,hc⟩:=P3 h.own e.symm;exact Y1 ho hc hne k hk rfl)
theorem Q3j {w:World} {g:Nat} {v0 v1:Value} {t:TypeId} (h:w.heap[g]? =some (.cells #[v0,v1] t)):w.cell? ⟨g,0,none⟩=some v0∧w.cell? ⟨g,1,none⟩=some v1:=by
 constructor
 ·rw [bV _ _ _ _ _ _ h];rfl
 ·rw [bV _ _ _ _ _ _ h];rfl
theorem V4n (ks:List (Nat×List Tk)) (k:Nat) (h:k < ks.length):V0 (ks.take (k+1))=V0 (ks.take k)++X8u ks[k].1 ks[k].2:=by
 unfold V0;rw [aH h,dE];simp
theorem Z8w (p:Nat) (f:List Tk) (rl:List (Nat×Nat)) (k:Nat) (h:k < rl.length):(rl.take (k+1)).map (pcU p f)=(rl.take k).map (pcU p f)++[pcU p f rl[k]]:=by
 rw [aH h,cP];rfl
theorem Z2j (m fmt:Int) (ps:List Pt) (ks:List (Nat×List Tk)) (h:UnOk m fmt ps ks) (A:Option Addr) (c:Nat) (vr:Value) (w:World) (hm:w.cell? ⟨0,0,none⟩=some (.int .i64 m)) (hp:RdE ptC 3 w (.slice A ps.length c) ps) (hr:RdRu w vr [G8]):
 Calls prog 18 #[.agg #[.int .i64 fmt,.slice A ps.length c],vr] w (fun e w'=>∃ v,e=.returned (.tuple #[v,.bool true])∧(∃ ys,PcO w.heap.size w' v (V0 ks) ys)∧Below w.heap.size w w'):=by
 obtain ⟨R,Hi⟩:∃ R:Ending→World→Prop,yK (R=fun e w'=>∃ v,e=.returned (.tuple #[v,.bool true])∧(∃ ys,PcO w.heap.size w' v (V0 ks) ys)∧Below w.heap.size w w'):=⟨_,rfl⟩;rw [←Hi.o];have HU:=zW h;have HT:=h.len;have HS:=V6n h;have Hl:=zW (X1z h);have CU:=zW (fun W (hW:Below w.heap.size w W)=>Y3b fmt ps A c W (hp.below hW yQ) yY);rw [h.idx] at CU;have CC:=zW (fun (x:Nat×List Tk) (hx:x∈ks) (W:World) (hW:Below w.heap.size w W)=>by
  obtain ⟨h1,h2,h3,_⟩:=h.each x hx;exact Q6o m fmt h.ok ps x.2 x.1 h1 h2 h3 A c W (X8 hm hW) (hp.below hW yQ) yY)
 obtain ⟨Ar,cr,rfl⟩:∃ Ar cr,vr=.slice Ar 1 cr:=by
  obtain ⟨xs,h1,h2,_⟩:=hr;obtain ⟨Ar,cr,h3,_⟩:=h1.shape;rw [h2] at h3;exact ⟨Ar,cr,h3⟩
 have HR:=zW hr;have hH:=zW ((aB w.heap.size w).alloc yQ (.cells #[.int .i64 fmt,.slice A ps.length c] 41));have hE:yK ((w.alloc (.cells #[.int .i64 fmt,.slice A ps.length c] 41)).heap[w.heap.size]? =some (.cells #[.int .i64 fmt,.slice A ps.length c] 41)):=aT w _;clear h hp hr hm;go_enter func18,ntmps18
 go_upto_region 2 with fail
 generalize w.alloc (.cells #[.int .i64 fmt,.slice A ps.length c] 41)=w1 at hH hE ⊢;obtain ⟨g,hg⟩:∃ g,yK (g=w.heap.size):=⟨_,rfl⟩;rw [←hg.o] at hE ⊢;have Hs:g < w1.heap.size:=(aN.1 hE.o).1;obtain ⟨d0,d1⟩:=Q3j hE.o;go_upto_region 3 with (go_at_call 26;refine (CU.o _ (by exact hH.o)).mono ?_;rintro e w2 ⟨vu,rfl,hZ,Hr⟩;have HA:=zW (OwnE.rd K6 hZ);have hN:=zW Hr;obtain ⟨Au,cu,Hw⟩:=Q0 hZ;rw [bA] at Hw;subst Hw;clear hZ Hr)
 have HG:=zW ((hN.o.block g Hs).trans hE.o);have HI:g < w2.heap.size:=bC Hs hN.o.size;have hu:=zW (hH.o.trans (hN.o.mono hH.o.size));clear d0 d1;go_loopg [6,18] ks.length (fun gk ov iv wr=>∃ k:Nat,iv=.int .i64 k∧k≤ks.length∧yK (∃ ys,PcO w2.heap.size wr ov (V0 (ks.take k)) ys)∧yK (Below w2.heap.size w2 wr)∧ks.length - k≤gk)
 case atStart=>exact ⟨0,rfl,aO _,⟨[],PcO.nil⟩,aB _ _,yQ⟩
 case round=>
  obtain ⟨k,rfl,hk,HO,HB,hgk⟩:=hrel;by_cases hlt:k < ks.length
  ·have hx:ks[k]∈ks:=aL hlt;have Hu:=HA.o.below HB.o yQ;obtain ⟨b,o,HH,hb,c0⟩:=Q3a Hu k (by rw [bA];exact hlt);subst HH;rw [eS] at c0;obtain ⟨_,_,_,HL,Ht⟩:=HU.o.each _ hx;have hL:=zW (V4n ks k hlt);have HX:=Hl.o k;have Hb:=Hl.o (k+1);have CCx:=zW (CC.o _ hx);generalize ks[k]=x at *;obtain ⟨kx,fx⟩:=x;simp only at c0 HL Ht hL CCx;have HV:=(Q8s [G8] fx).1;have HC:=zW (Q8s [G8] fx).2;have CR:=zW (fun (v vr:Value) (W:World) (h1:RdRu W vr [G8]) (h2:RdT W v fx)=>X9d [G8] vr fx v W h1 X5n h2 yY yY);have CSl:=zW (fun (p q:Nat) (v:Value) (W:World) (h1:p≤q) (h2:q≤X3 fx) (h:RdT W v fx)=>Q9u fx v p q W h yY yY h1 h2);unfold X8u at hL;generalize E5 [G8] fx=rl at *;have HW:rl.length≤1000:=yY;rw [hL.o] at Hb;generalize V0 (ks.take k)=P0 at *;have Hm:=zW ((HB.o.block g HI).trans HG.o);obtain ⟨d0,d1⟩:=Q3j Hm.o;have hO:=zW (hu.o.trans (HB.o.mono hu.o.size));clear Hu Ht;go_upto_region 6 with (go_at_call 27;refine (CCx.o _ (by exact hO.o)).mono ?_;rintro e w3 ⟨v,rfl,ho,Ho⟩;obtain ⟨Af,cf,rfl⟩:=Q0 ho;have hJ:=zW ho;have hn:=zW Ho;clear ho Ho)
   have hA:=zW (hO.o.trans (hn.o.mono hO.o.size));go_upto_region 9 with (go_at_call 31;refine (CR.o _ _ _ (by exact RdRu.below HR.o hA.o yQ) (by exact hJ.o.rd Q5)).mono ?_;rintro e w4 ⟨v,rfl,ho,Hp⟩;obtain ⟨Arl,crl,rfl⟩:=Q0 ho;have hC:=zW ho;have hM:=zW Hp;clear ho Hp)
   have hq:=zW (hn.o.trans (hM.o.mono hn.o.size));have hl:=zW (HB.o.trans (hq.o.mono HB.o.size));obtain ⟨ys4,hG⟩:=HO.o;have Hg:=zW (hG.below hq.o);have He:=zW (Y3 (Q7 hJ.o fun k hk=>hM.o.block k (hJ.o.lt k hk).2) HB.o.size);have he:=zW (Y3 hC.o (aP HB.o.size hn.o.size));clear hG HO hJ hC d0 d1 Hm c0 hb hn hM hq hA;have hV:=hl.o.size;go_loopg [6,34] rl.length (fun gk2 ov iv wz=>∃ j:Nat,iv=.int .i64 j∧j≤rl.length∧yK (∃ ys,PcO w2.heap.size wz ov (P0++(rl.take j).map (pcU kx fx)) ys)∧yK (OwnE 31 tkC 3 wz w2.heap.size (.slice Af fx.length cf) fx)∧yK (OwnE 54 Y9 2 wz w2.heap.size (.slice Arl rl.length crl) rl)∧yK (Below w2.heap.size w2 wz)∧rl.length - j≤gk2)
   case atStart=>exact ⟨0,rfl,aO _,⟨ys4,by rw [cW,eM,aX];exact Hg.o⟩,He.o,he.o,hl.o,yQ⟩
   case round=>
    clear Hg He he hl hV;obtain ⟨j,rfl,hj,hK,HF,Hh,hP,HJ⟩:=hrel;by_cases hlj:j < rl.length
    ·obtain ⟨b2,o2,hU,HQ,r0,r1⟩:=X9j (Hh.o.rd Q0n) j hlj;subst hU;have Hv:=HC.o _ (aL hlj);have HE:=zW (Z8w kx fx rl j hlj);have Hn:(P0++(rl.take j).map (pcU kx fx)).length≤2000000:=(by rw [aA,bA];have:=eQ j rl;omega);generalize rl[j]=r at *;obtain ⟨p,q⟩:=r;simp only at r0 r1 Hv;obtain ⟨ys,hi⟩:=hK.o;obtain ⟨Ao,co,Ha⟩:=Q0 hi.own;have HY:ys.length≤2000000:=(by rw [hi.len];exact Hn);clear Hn;subst Ha;have hz:=hP.o.size;have ht:=zW (hi.below ((aB wr.heap.size wr).alloc yQ (.cells #[.int .i64 p,.int .i64 q] 54)));have hB:=zW (aD HF.o (.cells #[.int .i64 p,.int .i64 q] 54));have ha:=zW (aD Hh.o (.cells #[.int .i64 p,.int .i64 q] 54));have hI:=zW (hP.o.alloc hz (.cells #[.int .i64 p,.int .i64 q] 54));have hw:yK ((wr.alloc (.cells #[.int .i64 p,.int .i64 q] 54)).heap[wr.heap.size]? =some (.cells #[.int .i64 p,.int .i64 q] 54)):=aT wr _;clear hi hK;go_upto_region 11 with fail
     generalize wr.alloc (.cells #[.int .i64 p,.int .i64 q] 54)=w5 at ht hB ha hI hw ⊢;obtain ⟨gq,HK⟩:∃ gq,yK (gq=wr.heap.size):=⟨_,rfl⟩;rw [←HK.o] at hw ⊢;have hY:gq < w5.heap.size:=(aN.1 hw.o).1;obtain ⟨e0,e1⟩:=Q3j hw.o;have HM:p≤q:=yY;have HN:q≤X3 fx:=Hv.2;have Hc:=hI.o.size;clear r0 r1;go_upto_region 12 with (go_at_call 47;go_loud (refine (CSl.o p q _ _ HM HN (by exact OwnE.rd Q5 hB.o)).mono ?_);rintro e w6 ⟨v,rfl,ho,Hq⟩;obtain ⟨As,cs,rfl⟩:=Q0 ho;have Hj:=zW ho;have hv:=zW Hq;clear ho Hq)
     have hF:=zW (ht.o.below hv.o);have Hf:=zW (Q7 hB.o fun k hk=>hv.o.block k (hB.o.lt k hk).2);have hD:=zW (Q7 ha.o fun k hk=>hv.o.block k (ha.o.lt k hk).2);have Hk:=zW (Y3 Hj.o Hc);have hs:=zW (hI.o.trans (hv.o.mono Hc));obtain ⟨f0,f1⟩:=Q3j ((hv.o.block gq hY).trans hw.o);clear e0 e1 ht hB ha hI hw Hj hv Hc;have HP:=hs.o.size;have hc:=zW (hF.o.below ((aB w6.heap.size w6).alloc yQ (.cells #[.int .i64 kx,.int .i64 p,.int .i64 q,.slice As (slI fx 0 p q).length cs] 56)));have Hy:=zW (aD Hf.o (.cells #[.int .i64 kx,.int .i64 p,.int .i64 q,.slice As (slI fx 0 p q).length cs] 56));have hQ:=zW (aD hD.o (.cells #[.int .i64 kx,.int .i64 p,.int .i64 q,.slice As (slI fx 0 p q).length cs] 56));have HD:=zW (aD Hk.o (.cells #[.int .i64 kx,.int .i64 p,.int .i64 q,.slice As (slI fx 0 p q).length cs] 56));have Hd:=zW (hs.o.alloc HP (.cells #[.int .i64 kx,.int .i64 p,.int .i64 q,.slice As (slI fx 0 p q).length cs] 56));clear hF Hf hD Hk hs;go_upto_region 15 with (at_builtin;go_loud (refine V2 rfl (.tmp 49) (.tmp 54) 43 56 rfl underlying43 _ pvC 4 48 V9g rfl yX Y4w V9f w2.heap.size _ ys rfl (by exact hc.o.own) _ [⟨⟨kx,p,q,slI fx 0 p q⟩,As,cs⟩] rfl (by exact Z3 pvC 4 Y4w _ _ yW ⟨⟨kx,p,q,slI fx 0 p q⟩,As,cs⟩ _) yV yX Hd.o.size ?_);intro v8 w8 hh hf hd;have hT:=zW (hc.o.push ⟨⟨kx,p,q,slI fx 0 p q⟩,As,cs⟩ HD.o hh hd);have Hz:=zW (hc.o.other hd Hy.o yX);have hR:=zW (hc.o.other hd hQ.o yX);have Hx:=zW (hf w2.heap.size w2 yQ Hd.o);clear hh hf hd)
     go_wp2_with fail
     go_roundg (rl.length - (j+1))
     case measure=>omega
     case rel=>
      have hX:yK (∃ ys,PcO w2.heap.size w8 v8 (P0++(rl.take (j+1)).map (pcU kx fx)) ys):=by
       refine ⟨ys++[⟨⟨kx,p,q,slI fx 0 p q⟩,As,cs⟩],?_⟩;rw [HE.o,←aZ];exact hT.o
      exact ⟨j+1,rfl,hlj,hX,Hz.o,hR.o,Hx.o,yQ⟩
    ·obtain rfl:j=rl.length:=yY;rw [aW,←hL.o] at hK;go_wp2_with fail
     go_roundg (ks.length - (k+1))
     case measure=>omega
     case rel=>exact ⟨k+1,rfl,hlt,hK.o,hP.o,yQ⟩
  ·obtain rfl:k=ks.length:=yY;rw [aW] at HO;obtain ⟨ys,hi⟩:=HO.o;obtain ⟨A2,c2,Ha⟩:=Q0 hi.own;have hn:=zW (hu.o.trans (HB.o.mono hu.o.size));have hS:=zW hi;subst Ha;clear hi;go_wp2_with fail
   first | go_ret2 | skip
   rw [Hi.o];exact ⟨_,rfl,⟨ys,Y3 hS.o.own hu.o.size,hS.o.eq,fun y hy=>Y3 (hS.o.each y hy) hu.o.size⟩,hn.o⟩
/-! ### The units of a made document -/
theorem Y3c (P:Els→Prop):∀ (ms:List MK) (st:List Un×List UInt8),(∀ u∈st.1,P u.ts)→(∀ t key ts,MK.blk t key ts∈ms→P ts)→∀ u∈(ms.foldl G1 st).1,P u.ts
 | [],st,h,_=>h
 | x::ms,st,h,hm=>by
   rw [bQ];refine Y3c P ms _ (fun u hu=>?_) (fun t key ts ht=>hm t key ts (by simp [ht]));cases x with
   | blk t key ts=>
     rcases aS.1 hu with hu | hu
     ·exact h u hu
     ·rw [aJ.1 hu];exact hm t key ts yW
   | byte _=>exact h u hu
   | note=>exact h u hu
   | tag _=>exact h u hu
theorem Y3d (P:Els→Prop):∀ (ls:List RL) (st:List Un×List UInt8),(∀ u∈st.1,P u.ts)→(∀ key ts,RL.unit key ts∈ls→P ts)→∀ u∈(ls.foldl O6 st).1,P u.ts
 | [],st,h,_=>h
 | x::ls,st,h,hm=>by
   rw [bQ];refine Y3d P ls _ (fun u hu=>?_) (fun key ts ht=>hm key ts (by simp [ht]));cases x with
   | unit key ts=>
     rcases aS.1 hu with hu | hu
     ·exact h u hu
     ·rw [aJ.1 hu];exact hm key ts yW
   | skip _=>exact h u hu
theorem Y3e (P:Els→Prop):∀ (rs:List Rc) (st:List Un×List UInt8),(∀ u∈st.1,P u.ts)→(∀ r∈rs,P r.ts)→∀ u∈(rs.foldl O7 st).1,P u.ts
 | [],st,h,_=>h
 | x::rs,st,h,hm=>by
   rw [bQ];refine Y3e P rs _ (fun u hu=>?_) (fun r hr=>hm r (by simp [hr]));rcases aS.1 hu with hu | hu
   ·exact h u hu
   ·rw [aJ.1 hu];exact hm x yW
theorem Y8h (L:List Int) (P:Els→Prop) (hP:∀ N,P (J9 1 L N).1):∀ (i k:Nat) (ms:List MK) (N:Nat),(∀ t key ts,MK.blk t key ts∈ms→P ts)→∀ t key ts,MK.blk t key ts∈(Q9x L i k ms N).1→P ts
 | 0,_,_,_,h=>h
 | i+1,k,ms,N,h=>by
   have ha:=X5 L ((J9 1 L N).2+2) 3 yX;rw [Q9x];refine Y8h L P hP i (k+1) _ _ fun t key ts hm=>?_;rcases aS.1 hm with hm | hm
   ·exact h t key ts hm
   ·rcases aU.1 hm with e | hm
    ·injection e with _ _ e;rw [e];exact hP N
    ·exact absurd rfl ((Y5i _ yY _ hm).2 t key ts)
theorem X3z:∀ (ls:List RL),Z1 ls=[]→∀ key ts,RL.unit key ts∉ls
 | [],_,_,_,h=>by simp at h
 | .skip l::ls,hk,key,ts,h=>by
   rcases aU.1 h with e | h
   ·cases e
   ·exact X3z ls hk key ts h
 | .unit k t::ls,hk,_,_,_=>by
   rw [show Z1 (.unit k t::ls)=k::Z1 ls from rfl] at hk;cases hk
theorem Y9r (L:List Int) (P:Els→Prop) (hP:∀ N,P (J9 2 L N).1):∀ (i:Nat) (ls:List RL) (N:Nat),(∀ key ts,RL.unit key ts∈ls→P ts)→∀ key ts,RL.unit key ts∈(X4m L i ls N).1→P ts
 | 0,_,_,h=>h
 | i+1,ls,N,h=>by
   have ha:=X5 L (J9 2 L N).2 3 yX;rw [X4m];refine Y9r L P hP i _ _ fun key ts hm=>?_;rcases aS.1 hm with hm | hm
   ·exact h key ts hm
   ·rcases aU.1 hm with e | hm
    ·injection e with _ e;rw [e];exact hP N
    ·exact absurd hm (X3z _ (Z6x _ yY).2 key ts)
theorem Z0c (L:List Int) (h:Nat) (P:Els→Prop) (hP:∀ N,P (J9 3 L N).1):∀ (i k:Nat) (rs:List Rc) (N:Nat),(∀ r∈rs,P r.ts)→∀ r∈(X0h L h i k rs N).1,P r.ts
 | 0,_,_,_,hr=>hr
 | i+1,k,rs,N,hr=>by
   rw [X0h];refine Z0c L h P hP i (k+1) _ _ fun r hm=>?_;rcases aS.1 hm with hm | hm
   ·exact hr r hm
   ·rw [aJ.1 hm];exact hP N
theorem Z8u (L:List Int) (N n:Nat) (hn:n≤3) (fmt:Int) (hf:D1 fmt):∀ u∈(F8 L N n fmt).un.1,∃ M,u.ts=(J9 fmt L M).1:=by
 have ha:=X5 L N 3 yX;have hh:(Q8 L N 3).toNat < 3:=yY;unfold F8;generalize (Q8 L N 3).toNat=h at hh;generalize (Q8 L (N+1) ((n:Int)+1)).toNat=m;rcases hf with rfl | rfl | rfl
 ·simp only [aK];exact Y3c (fun ts=>∃ M,ts=(J9 1 L M).1) _ _ (fun u hu=>by simp at hu) (Y8h L _ (fun M=>⟨M,rfl⟩) m 0 _ _ fun t key ts hm=>absurd rfl ((Y4v h hh _ hm).2 t key ts))
 ·rw [aE yX,aK rfl];exact Y3d (fun ts=>∃ M,ts=(J9 2 L M).1) _ _ (fun u hu=>by simp at hu) (Y9r L _ (fun M=>⟨M,rfl⟩) m _ _ fun key ts hm=>absurd hm (X3z _ (Z6c h hh).2 key ts))
 ·rw [aE yX,aE yX];exact Y3e (fun ts=>∃ M,ts=(J9 3 L M).1) _ _ (fun u hu=>by simp at hu) (Z0c L h (fun ts=>∃ M,ts=(J9 3 L M).1) (fun M=>⟨M,rfl⟩) m 0 [] (N+2) fun r hr=>by simp at hr)
/-! ### A made unit -/
theorem Z4o (R:List (Bool×Bool)):∀ (l:List (Nat×Nat)) (a:Nat),V0x R a l→Q9c a l R.length
 | [],_,_=>trivial
 | r::l,a,h=>by
   obtain ⟨h1,h2,h3,_,_,_,_,h4⟩:=h;exact ⟨h1,cS h2,h3,Z4o R l r.2 h4⟩
theorem X9e (rs:List Ru) (f:List Tk):Q9c 0 (E5 rs f) (X3 f):=by
 have h:=Z4o (sqF f) _ 0 (X9f rs f);rwa [Q8v] at h
structure UnitW (fmt:Int) (ts:Els):Prop where
 raw:RawOk fmt ts
 one:X9 (X0 ts)=X0 ts
 len:(X0 ts).length≤160
 sz:(Q2 ts).length≤6880
 enc:∀ y∈X0 ts,(V6 fmt y).length≤70
theorem V7p (fmt:Int) (y:Tk) (ho:One y) (hs:y.t.size≤64):(V6 fmt y).length≤70:=by
 by_cases hk:y.k=1
 ·obtain ⟨c,rfl⟩:=ho hk;have:=Q6r fmt c;omega
 ·have hl:y.t.data.toList.length≤64:=(by rw [←aC];exact hs);unfold V6;rw [aE hk];repeat (first | (simp only [aG,aA,eB];omega) | split)
theorem U4e (fmt:Int) (hf:D1 fmt) (L:List Int) (M:Nat):UnitW fmt (J9 fmt L M).1:=by
 have hF:=V2v fmt hf L M;obtain ⟨h1,h2,_⟩:=W9 fmt hf L M;obtain ⟨h3,h4,_⟩:=X3c fmt hf L M;refine ⟨h1,by rw [h2];exact Q8i _ fun y hy=>C8 _ y hy,h4,h3,fun y hy=>?_⟩;rw [h2] at hy;exact V7p fmt y (C8 _ y hy) (hF.one y hy).2.2.2.2.2
theorem Z4x (fmt:Int):∀ u:List Tk,(∀ y∈u,(V6 fmt y).length≤70)→(V3 fmt u).length≤70 * u.length
 | [],_=>yQ
 | y::u,h=>by
   have ih:=Z4x fmt u fun z hz=>h z (by simp [hz]);have h1:=h y yW;have e:V3 fmt (y::u)=V6 fmt y++V3 fmt u:=(by simp [V3]);rw [e,aA,aG];omega
theorem Z6u (fmt:Int) (ts:Els) (hc:∀ y∈X0 ts,(V6 fmt y).length≤70):∀ (rl:List (Nat×Nat)) (tg:List (List Tk)) (a:Nat),Q9c a rl (X0 ts).length→AllT (fun r t=>X9 t=((X0 ts).take r.2).drop r.1) rl tg→
 (Q2 (G6 ts a rl (tg.map (tsF fmt)))).length≤(Q2 (U7 ts a)).length+70 * ((X0 ts).length - a)
 | [],[],a,_,_=>by rw [eM,Q7u];omega
 | r::rl,t::tg,a,⟨h1,h2,h3,h4⟩,⟨g1,g2⟩=>by
   have ih:=Z6u fmt ts hc rl tg r.2 h4 g2;rw [cA,Q7v,F9,F9,X6j,aA,aA];have e1:=congrArg List.length (F4 (U7 ts a) (r.1 - a));rw [Q0g,show a+(r.1 - a)=r.1 by omega,aA] at e1;have e2:=congrArg List.length (F4 (U7 ts r.1) (r.2 - r.1));rw [Q0g,show r.1+(r.2 - r.1)=r.2 by omega,aA] at e2;have e3:(V3 fmt t).length≤70 * (r.2 - r.1):=by
    rw [←X1e,g1];have:=Z4x fmt (((X0 ts).take r.2).drop r.1) fun y hy=>hc y (bY (dW hy));rw [bM,bG] at this;have e:70 * (min r.2 (X0 ts).length - r.1)≤70 * (r.2 - r.1):=Nat.mul_le_mul_left _ yY;omega
   have e4:70 * (r.2 - r.1)+70 * ((X0 ts).length - r.2)≤70 * ((X0 ts).length - a):=by
    rw [←Nat.mul_add];exact Nat.mul_le_mul_left _ yY
   omega
theorem V0e (fmt:Int) (hf:D1 fmt) (u:Un) (hu:UnitW fmt u.ts) (rl:List (Nat×Nat)) (tg:List (List Tk)) (hr:rl=E5 [G8] (Q4 (X0 u.ts))) (ht:AllT (fun r t=>t=slI (Q4 (X0 u.ts)) 0 r.1 r.2) rl tg):
 UnitT fmt u rl tg∧X0 (G6 u.ts 0 rl (tg.map (tsF fmt)))=X0 u.ts:=by
 have hb:=hu.len;have hc:X3 (Q4 (X0 u.ts))=(X0 u.ts).length:=(by rw [L2,S7 _ hu.one]);have ha:=X9e [G8] (Q4 (X0 u.ts));have hd:=(Q8s [G8] (Q4 (X0 u.ts))).1;rw [←hr,hc] at ha hd;have hS:=AllT.imp (Q:=fun r t=>TgtOk fmt (((X0 u.ts).take r.2).drop r.1) t∧X9 t=((X0 u.ts).take r.2).drop r.1) (fun r t e=>by
  subst e;exact X9y fmt hf u.ts hu.raw hu.one r.1 r.2) ht
 have hE:=AllT.imp (Q:=fun r t=>X9 t=((X0 u.ts).take r.2).drop r.1) (fun r t e=>e.2) hS;have hU:=Y2q (X0 u.ts) (X0 u.ts).length rl tg 0 ha hE;rw [cO] at hU;refine ⟨⟨ha,yY,AllT.imp (fun r t e=>e.1) hS,by rw [hU];omega,fun t he=>?_,?_⟩,by rw [Q8j];exact hU⟩
 ·obtain ⟨r,_,e⟩:=AllT.mem hE t he;rw [←D2,e,bM,bG];omega
 ·have:=Z6u fmt u.ts hu.enc rl tg 0 ha hE;have e:U7 u.ts 0=u.ts:=by cases h:u.ts<;>rfl
  rw [e] at this;omega
/-! ### The document -/
theorem X6e:∀ (us:List Un) (i:Nat),(ksU us i).map (fun x=>x.1)=(List.range us.length).map fun (j:Nat)=>2 * (i+j)+1
 | [],_=>rfl
 | u::us,i=>by
   rw [ksU,cA,X6e us (i+1),aG,List.range_succ_eq_map,cA,fQ];congr 1;apply List.map_congr_left;intro j _;show 2 * (i+1+j)+1=2 * (i+(j+1))+1;omega
structure KeepW (m fmt:Int) (ps pe:List Pt) (ks:List (Nat×List Tk)):Prop where
 un:UnOk m fmt ps ks
 tr:Z0t m fmt (V0 ks) ((V0 ks).map fun p=>p.src) (ks.map fun x=>x.1) ps pe
 len:pe.length=ps.length
 each:∀ x∈ks,∃ h:x.1 < pe.length,pe[x.1].un=true∧Y0w m fmt pe[x.1].raw x.2
theorem U3r (m fmt:Int) (hf:D1 fmt) (d:DS) (hd:d.Ok) (hfm:d.fmt=fmt) (hul:d.un.1.length≤3) (hsz:d.data.length≤25000) (hW:∀ u∈d.un.1,UnitW fmt u.ts):∃ pe,KeepW m fmt d.ps pe (ksU d.un.1 0):=by
 obtain ⟨P,hP⟩:∃ P,d.un=P:=⟨_,rfl⟩;obtain ⟨us,tl⟩:=P;have ha:d.ps=P9 us tl:=(by unfold DS.ps;rw [hP]);rw [hP] at hul hW ⊢;simp only at hul hW ⊢;have hn:(O0 us tl).length≤25000:=(by unfold DS.data at hsz;rwa [hP] at hsz);have hc:=AllP.map (P:=fun p t=>t=p.src) (fun p=>p.src) (V0 (ksU us 0)) (fun p _=>rfl);have hm:∀ j u,us[j]? =some u→UnitT fmt u (V4 (2 * j+1) (V0 (ksU us 0))) (K7 (2 * j+1) (V0 (ksU us 0)) ((V0 (ksU us 0)).map fun p=>p.src))∧X0 (Q7t fmt (V0 (ksU us 0)) ((V0 (ksU us 0)).map fun p=>p.src) j u).ts=X0 u.ts:=by
  intro j u hu;have ht:=AllP.pick (2 * j+1) hc;have hr:=Y4t us 0 j u hu;rw [bI] at hr;refine V0e fmt hf u (hW u (cK hu)) _ _ hr (AllT.imp (fun r t=>?_) ht);rintro ⟨p,hp,hpt,rfl,rfl⟩;obtain ⟨j',u',r',h1,h2,rfl⟩:=Y4s us 0 p hp;have hj:j'=j:=by
   have:2 * (0+j')+1=2 * j+1:=hpt;omega
  subst hj;rw [hu] at h1;injection h1 with h1;subst h1;rfl
 obtain ⟨hl,d',e1,e2,e3⟩:=V6c m fmt tl (V0 (ksU us 0)) ((V0 (ksU us 0)).map fun p=>p.src) us [] d hd hfm hP (by simpa using aP hul yX) (by
  rw [bJ];omega) (fun j u hu=>by
  rw [show ([]:List Un).length+j=j from bI j];exact (hm j u hu).1)
 have hK:(List.range us.length).map (fun (j:Nat)=>2 * (([]:List Un).length+j)+1)=(ksU us 0).map fun x=>x.1:=(X6e us 0).symm;rw [hK,bJ] at hl;have hh:(P9 (R6 fmt (V0 (ksU us 0)) ((V0 (ksU us 0)).map fun p=>p.src) 0 us) tl).length=d.ps.length:=by
  rw [ha,S9,S9,X4l]
 refine ⟨P9 (R6 fmt (V0 (ksU us 0)) ((V0 (ksU us 0)).map fun p=>p.src) 0 us) tl,⟨hf,?_,?_,by rw [ha,S9];omega⟩,hl,hh,?_⟩
 ·have hk:=congrArg (List.map (fun (k:Nat)=>(k:Int))) (X6e us 0);rw [fQ,fQ] at hk;rw [ha,V6m];refine Eq.trans ?_ hk.symm;apply List.map_congr_left;intro j _;show ((0+(2 * j+1):Nat):Int)=((2 * (0+j)+1:Nat):Int);omega
 ·intro x hx;obtain ⟨j,u,hu,rfl⟩:=Y4i us 0 x hx;obtain ⟨hj,he⟩:=aM.1 hu;have hw:=hW u (cK hu);have hg:=Q4q us tl j hj;rw [he] at hg;obtain ⟨hk,hv⟩:=aM.1 hg;have hB:X3 (Q4 (X0 u.ts))=(X0 u.ts).length:=(by rw [L2,S7 _ hw.one]);have hs:=Q7c (X0 u.ts);rw [S7 _ hw.one] at hs;have hC:=hw.len;have hz:=hw.sz;simp only [bI];refine ⟨by rw [ha];exact hk,?_⟩;have hy:d.ps[2 * j+1]'(by rw [ha];exact hk)=⟨true,ofL u.key,ofL (Q2 u.ts)⟩:=by
   rw [←hv];congr 1
  rw [hy];exact ⟨rfl,Q8f m fmt hf u.ts hw.raw yY,yY,yY⟩
 ·intro x hx;obtain ⟨j,u,hu,rfl⟩:=Y4i us 0 x hx;obtain ⟨hj,he⟩:=aM.1 hu;have hw:=hW u (cK hu);obtain ⟨hT,hI⟩:=hm j u hu;have hi:=X4k fmt (V0 (ksU us 0)) ((V0 (ksU us 0)).map fun p=>p.src) us 0 j u hu;rw [bI] at hi;obtain ⟨hq,ho⟩:=aM.1 hi;have hg:=Q4q (R6 fmt (V0 (ksU us 0)) ((V0 (ksU us 0)).map fun p=>p.src) 0 us) tl j hq;rw [ho] at hg;obtain ⟨hk,hv⟩:=aM.1 hg;have hb:=d'.raws e1 (Q7t fmt (V0 (ksU us 0)) ((V0 (ksU us 0)).map fun p=>p.src) j u) (by
   rw [e3,bJ];exact cK hi)
  rw [e2] at hb;have hA:=hT.gro;have hz:=hw.sz;simp only [bI];refine ⟨hk,?_⟩;rw [hv];refine ⟨rfl,?_⟩;rw [←hI];exact Q8f m fmt hf _ hb (by show (Q2 (G6 _ _ _ _)).length≤_;omega)
theorem Q4l:∀ f:List Tk,ntx (X9 f)=ntx f
 | []=>rfl
 | x::f=>by
   have ih:=Q4l f;have e:X9 (x::f)=P8 x++X9 f:=(by simp [X9]);rw [e,Q0v,ih,show x::f=[x]++f from rfl,Q0v];congr 1;unfold P8;split
   ·rename_i hk;have:∀ l:List UInt8,ntx (l.map chI)=0:=fun l=>by
     induction l with
     | nil=>rfl
     | cons c l ih=>exact ih
    rw [this];unfold ntx;simp [hk]
   ·rfl
theorem Q4z (L:List Int):∀ (src:List Tk) (N:Nat),tgs (K1 L src N).1=tgs src
 | [],_=>rfl
 | x::r,N=>by
   have n1:∀ t d,¬ N7 (⟨1,t,d⟩:Tk):=fun t d h=>by
    rcases h with h | h | h<;>exact absurd (show (1:Int)=_ from h) yX
   rw [K1];split
   ·rename_i hk;have hx:¬ N7 x:=fun h=>by rcases h with h | h | h<;>omega
    rw [Q3w _ _ (n1 _ _),Q3w _ _ hx,Q4z L r]
   ·split
    ·rw [Q3w _ _ (n1 _ _)];by_cases hx:N7 x
     ·rw [X2y _ _ hx,X2y _ _ hx,Q4z L r]
     ·rw [Q3w _ _ hx,Q3w _ _ hx,Q4z L r]
    ·by_cases hx:N7 x
     ·rw [X2y _ _ hx,X2y _ _ hx,Q4z L r]
     ·rw [Q3w _ _ hx,Q3w _ _ hx,Q4z L r]
theorem X1t (L:List Int):∀ (src:List Tk) (N:Nat) (y:Tk),y∈(K1 L src N).1→y.k≠1→y∈src
 | [],_,y,h,_=>by simp [K1] at h
 | x::r,N,y,h,hk=>by
   rw [K1] at h;split at h
   ·rcases aU.1 h with rfl | h
    ·exact absurd rfl hk
    ·exact dQ _ (X1t L r _ y h hk)
   ·split at h
    ·rcases aU.1 h with rfl | h
     ·exact absurd rfl hk
     ·rcases aU.1 h with rfl | h
      ·exact List.mem_cons_self
      ·exact dQ _ (X1t L r _ y h hk)
    ·rcases aU.1 h with rfl | h
     ·exact List.mem_cons_self
     ·exact dQ _ (X1t L r _ y h hk)
theorem V3v (u:List Tk) (y:Tk) (h:y∈Q4 u) (hk:y.k≠1):y∈u:=by
 have h1:y∈X9 (Q4 u):=dA.2 ⟨y,h,by unfold P8;rw [aE hk];exact aJ.2 rfl⟩;rw [L1] at h1;rcases Y3z u y h1 with ⟨c,rfl⟩ | h2
 ·exact absurd rfl hk
 ·exact h2.1
theorem V6g:∀ f:List Tk,Normal f→f.length≤2 * ntx f+1∧((∀ y,f.head? =some y→y.k≠1)→f.length≤2 * ntx f)
 | [],_=>⟨by simp,fun _=>by simp⟩
 | x::r,⟨h1,h2⟩=>by
   obtain ⟨i1,i2⟩:=V6g r h2;have e:ntx (x::r)=(if x.k≠1 then 1 else 0)+ntx r:=by
    rw [show x::r=[x]++r from rfl,Q0v];congr 1;unfold ntx;by_cases hk:x.k=1<;>simp [hk]
   rw [aG,e];by_cases hk:x.k=1
   ·rw [aE (by simpa using hk)];have:=i2 (h1 hk).2.2;exact ⟨yY,fun h=>absurd hk (h x rfl)⟩
   ·rw [aK hk];exact ⟨yY,fun _=>yY⟩
theorem X1r (L:List Int):∀ (src:List Tk) (N:Nat),(X9 (K1 L src N).1).length≤(X9 src).length+8 * src.length+4 * ntx src
 | [],_=>yQ
 | x::r,N=>by
   have e:∀ (y:Tk) (u:List Tk),(X9 (y::u)).length=(P8 y).length+(X9 u).length:=fun y u=>by simp [X9]
   have et:∀ (t:fY) (d:Int),(P8 ⟨1,t,d⟩).length=t.size:=fun t d=>by
    unfold P8;rw [aK rfl,bA,aC]
   have hw:=X0n x.t (Q8 L N 5).toNat;obtain ⟨h1,_⟩:=Q4k L (N+1) 2 yX;have ha:6 * (2:Int).toNat=12:=rfl;have en:ntx (x::r)=ntx [x]+ntx r:=Q0v [x] r;have e3:x.k≠1→ntx [x]=1:=fun hk=>by unfold ntx;simp [hk]
   rw [K1];split
   ·rename_i hk;have i1:=X1r L r (N+1);have ex:(P8 x).length=x.t.size:=(by unfold P8;rw [aK hk,bA,aC]);simp only [e,et,aG];omega
   ·rename_i hk;have:=e3 hk;split
    ·have i1:=X1r L r (J3 L (N+1) 2).2;simp only [e,et,aG];omega
    ·have i1:=X1r L r (N+1);simp only [e,aG];omega
theorem V2f (fmt:Int):∀ v:List Tk,(∀ y∈v,One y)→(∀ y∈v,y.k≠1→(V6 fmt y).length≤70)→(V3 fmt v).length≤5 * v.length+70 * ntx v
 | [],_,_=>yQ
 | x::v,h1,h2=>by
   have ih:=V2f fmt v (fun y hy=>h1 y (by simp [hy])) (fun y hy=>h2 y (by simp [hy]));have e1:V3 fmt (x::v)=V6 fmt x++V3 fmt v:=(by simp [V3]);have e2:ntx (x::v)=ntx [x]+ntx v:=Q0v [x] v;rw [e1,e2,aA,aG];by_cases hk:x.k=1
   ·obtain ⟨c,rfl⟩:=h1 x yW hk;have:=Q6r fmt c;omega
   ·have:=h2 x yW hk;have e3:ntx [x]=1:=(by unfold ntx;simp [hk]);omega
theorem V4b {a b:List Tk} (h:a.Sublist b):ntx a≤ntx b:=(h.filter _).length_le
def IsT (L:List Int) (f:List Tk) (r:Nat×Nat) (t:List Tk):Prop:=∃ N,t=Q4 (K1 L (slI f 0 r.1 r.2) N).1
structure TgtI (fmt:Int) (u:List Tk) (r:Nat×Nat) (t:List Tk):Prop where
 ok:TgtOk fmt ((u.take r.2).drop r.1) t
 len:(X9 t).length≤((u.take r.2).drop r.1).length+8+20 * ntx ((u.take r.2).drop r.1)
 enc:(V3 fmt t).length≤5 * ((u.take r.2).drop r.1).length+40+170 * ntx ((u.take r.2).drop r.1)
theorem U0e (fmt:Int) (hf:D1 fmt) (L:List Int) (ts:Els) (hu:UnitW fmt ts) (r:Nat×Nat) (t:List Tk) (h:IsT L (Q4 (X0 ts)) r t):TgtI fmt (X0 ts) r t:=by
 obtain ⟨N,rfl⟩:=h;obtain ⟨h1,h2⟩:=X9y fmt hf ts hu.raw hu.one r.1 r.2;generalize slI (Q4 (X0 ts)) 0 r.1 r.2=s at *;have ha:∀ y∈Q4 (K1 L s N).1,y.k≠1→y∈s:=fun y hy hk=>X1t L s N y (V3v _ y hy hk) hk;have hd:ntx s=ntx (((X0 ts).take r.2).drop r.1):=(by rw [←Q4l,h2]);have he:∀ (a:List Tk) (M:Nat),ntx (K1 L a M).1=ntx a:=fun a=>by
  induction a with
  | nil=>intro _;rfl
  | cons x a ih=>
    intro M;have e:∀ (y:Tk) (v:List Tk),ntx (y::v)=ntx [y]+ntx v:=fun y v=>Q0v [y] v;have e1:∀ (q:fY) (d:Int),ntx [(⟨1,q,d⟩:Tk)]=0:=fun _ _=>rfl;rw [K1];split
    ·rename_i hk;have:ntx [x]=0:=(by unfold ntx;simp [hk]);rw [e,e x,ih,e1,this]
    ·split
     ·exact (e _ _).trans (by rw [e1,bI];exact (e x _).trans (by rw [ih];exact (e x a).symm))
     ·exact (e x _).trans (by rw [ih];exact (e x a).symm)
 have hc:ntx (Q4 (K1 L s N).1)=ntx s:=(by rw [←Q4l,L1,Q4l,he]);have hb:(X9 (Q4 (K1 L s N).1)).length≤(((X0 ts).take r.2).drop r.1).length+8+20 * ntx (((X0 ts).take r.2).drop r.1):=by
  have g1:=X1r L s N;have g2:=(V6g s h1.nrm).1;rw [L1];rw [h2] at g1;omega
 have hg:TgtOk fmt (((X0 ts).take r.2).drop r.1) (Q4 (K1 L s N).1):=⟨N1 _,fun x hx hk=>h1.els x (ha x hx hk) hk,by rw [←X2x,L1,X2x,Q4z];exact h1.tags⟩;refine ⟨hg,hb,?_⟩;have g3:=V2f fmt (X9 (Q4 (K1 L s N).1)) (fun y hy=>C8 _ y hy) (fun y hy hk=>by
  rcases Y3z _ y hy with ⟨c,rfl⟩ | ⟨h3,_⟩
  ·exact absurd rfl hk
  ·have h4:y∈X9 s:=dA.2 ⟨y,ha y h3 hk,by unfold P8;rw [aE hk];exact aJ.2 rfl⟩;rw [h2] at h4;exact hu.enc y (bY (dW h4)))
 rw [X1e,Q4l,hc,hd] at g3;omega
theorem Y2t (u:List Tk) (a:Nat) (r:Nat×Nat) (h1:a≤r.1) (h2:r.1≤r.2) (h3:r.2≤u.length):((u.take r.2).drop r.1).length=r.2 - r.1∧ntx ((u.take r.2).drop r.1)+ntx (u.drop r.2)≤ntx (u.drop a):=by
 refine ⟨by rw [bM,bG];omega,?_⟩;rw [Q9s u a r.1 r.2 h1 h2,Q0v,Q0v];omega
theorem Y9f (fmt:Int) (u:List Tk):∀ (rl:List (Nat×Nat)) (tg:List (List Tk)) (a:Nat),Q9c a rl u.length→a≤u.length→AllT (TgtI fmt u) rl tg→(Q3c u a rl tg).length≤(u.length - a)+8 * rl.length+20 * ntx (u.drop a)
 | [],[],a,_,_,_=>by rw [X9k,bM];omega
 | r::rl,t::tg,a,⟨h1,h2,h3,h4⟩,ha,⟨g1,g2⟩=>by
   have ih:=Y9f fmt u rl tg r.2 h4 h3 g2;obtain ⟨p1,p2⟩:=Y2t u a r h1 h2 h3;have hl:=g1.len;rw [X9l,aA,aA,bM,bG,aG];omega
theorem Z0j (fmt:Int) (ts:Els):∀ (rl:List (Nat×Nat)) (tg:List (List Tk)) (a:Nat),Q9c a rl (X0 ts).length→a≤(X0 ts).length→AllT (TgtI fmt (X0 ts)) rl tg→
 (Q2 (G6 ts a rl (tg.map (tsF fmt)))).length≤(Q2 (U7 ts a)).length+5 * ((X0 ts).length - a)+40 * rl.length+170 * ntx ((X0 ts).drop a)
 | [],[],a,_,_,_=>by rw [eM,Q7u];omega
 | r::rl,t::tg,a,⟨h1,h2,h3,h4⟩,ha,⟨g1,g2⟩=>by
   have ih:=Z0j fmt ts rl tg r.2 h4 h3 g2;obtain ⟨p1,p2⟩:=Y2t (X0 ts) a r h1 h2 h3;have he:=g1.enc;rw [cA,Q7v,F9,F9,X6j,aA,aA,aG];have e1:=congrArg List.length (F4 (U7 ts a) (r.1 - a));rw [Q0g,show a+(r.1 - a)=r.1 by omega,aA] at e1;have e2:=congrArg List.length (F4 (U7 ts r.1) (r.2 - r.1));rw [Q0g,show r.1+(r.2 - r.1)=r.2 by omega,aA] at e2;omega
theorem V6b (fmt:Int) (hf:D1 fmt) (L:List Int) (u:Un) (hu:UnitW fmt u.ts) (hc:ntx (X0 u.ts)≤10∧(X0 u.ts).length≤125∧(E5 [G8] (Q4 (X0 u.ts))).length≤16) (rl:List (Nat×Nat)) (tg:List (List Tk)) (hr:rl=E5 [G8] (Q4 (X0 u.ts)))
 (ht:AllT (IsT L (Q4 (X0 u.ts))) rl tg):UnitT fmt u rl tg:=by
 obtain ⟨c1,c2,c3⟩:=hc;have hb:X3 (Q4 (X0 u.ts))=(X0 u.ts).length:=(by rw [L2,S7 _ hu.one]);have ha:=X9e [G8] (Q4 (X0 u.ts));rw [←hr,hb] at ha;rw [←hr] at c3;have hS:=AllT.imp (Q:=TgtI fmt (X0 u.ts)) (fun r t h=>U0e fmt hf L u.ts hu r t h) ht;have h1:=Y9f fmt (X0 u.ts) rl tg 0 ha (aO _) hS;have h2:=Z0j fmt u.ts rl tg 0 ha (aO _) hS;rw [cO] at h1 h2;have e:U7 u.ts 0=u.ts:=by cases h:u.ts<;>rfl
 rw [e] at h2;refine ⟨ha,yY,AllT.imp (fun r t e=>e.ok) hS,yY,fun t hd=>?_,yY⟩;obtain ⟨r,_,g⟩:=AllT.mem hS t hd;have:=g.len;have hn:=V4b ((List.drop_sublist r.1 ((X0 u.ts).take r.2)).trans (List.take_sublist r.2 (X0 u.ts)));rw [←D2];rw [bM,bG] at this;omega
def sgs (fmt:Int) (raw:List UInt8) (cf:Nat→Nat):Nat→List (Nat×Nat)→List (List Tk)→List UInt8
 | c,r::rl,t::tg=>(raw.drop c).take (cf r.1 - c)++V3 fmt t++sgs fmt raw cf (cf r.2) rl tg
 | c,_,_=>raw.drop c
def V1d (cf:Nat→Nat) (n:Nat):Nat→List (Nat×Nat)→Prop
 | _,[]=>True
 | c,r::rl=>c≤cf r.1∧cf r.1≤cf r.2∧cf r.2≤n∧V1d cf n (cf r.2) rl
def cfE (ts:Els) (p:Nat):Nat:=(Q2 (Z5 ts p)).length
theorem Y1g (ts:Els) (a b:Nat) (h:a≤b):Q2 (Z5 ts b)=Q2 (Z5 ts a)++Q2 (Z5 (U7 ts a) (b - a)):=by
 rw [←F9,←Q1q,show a+(b - a)=b by omega]
theorem Y6k (ts:Els) (a b:Nat) (h:a≤b):cfE ts a≤cfE ts b:=by
 unfold cfE;rw [Y1g ts a b h,aA];omega
theorem U1b (ts:Els) (a:Nat):cfE ts a≤(Q2 ts).length:=by
 have:=congrArg List.length (F4 ts a);rw [aA] at this;unfold cfE;omega
theorem Y6j (ts:Els) (a:Nat):(Q2 ts).drop (cfE ts a)=Q2 (U7 ts a):=by
 unfold cfE;conv=>lhs;arg 2;rw [F4 ts a]
 exact dR
theorem Z6v (fmt:Int) (ts:Els):∀ (rl:List (Nat×Nat)) (tg:List (List Tk)) (a n:Nat),Q9c a rl n→rl.length=tg.length→
 Q2 (G6 ts a rl (tg.map (tsF fmt)))=sgs fmt (Q2 ts) (cfE ts) (cfE ts a) rl tg∧V1d (cfE ts) (Q2 ts).length (cfE ts a) rl
 | [],[],a,n,_,_=>⟨by rw [eM,Q7u,←Y6j];rfl,trivial⟩
 | r::rl,t::tg,a,n,⟨h1,h2,h3,h4⟩,hl=>by
   obtain ⟨i1,i2⟩:=Z6v fmt ts rl tg r.2 n h4 (by simpa using hl);refine ⟨?_,Y6k ts a r.1 h1,Y6k ts r.1 r.2 h2,U1b ts r.2,i2⟩;rw [cA,Q7v,F9,F9,X6j,i1,sgs,Y6j];congr 2;have e:=Y1g ts a r.1 h1;have el:=congrArg List.length e;rw [aA] at el;rw [F4 (U7 ts a) (r.1 - a)];rw [show cfE ts r.1 - cfE ts a=(Q2 (Z5 (U7 ts a) (r.1 - a))).length by unfold cfE;omega];exact List.take_left.symm
def BsI (fmt:Int) (raw all want:List UInt8) (at_:Nat) (cf:Nat→Nat) (rl:List (Nat×Nat)) (tg:List (List Tk)) (goal:List UInt8):Prop:=
 ∃ c pend,(all++raw).drop at_=pend++raw.drop c∧at_+pend.length=all.length+c∧c≤raw.length∧V1d cf raw.length c rl∧want++(pend++sgs fmt raw cf c rl tg)=goal
theorem Z7h {fmt:Int} {raw all want:List UInt8} {at_:Nat} {cf:Nat→Nat} {rl:List (Nat×Nat)} {tg:List (List Tk)} {g raw':List UInt8} (h1:want++all.drop at_=g) (h2:at_≤all.length) (h3:sgs fmt raw cf 0 rl tg=raw') (h4:V1d cf raw.length 0 rl):BsI fmt raw all want at_ cf rl tg (g++raw'):=
 ⟨0,all.drop at_,by rw [List.drop_append_of_le_length h2,cO],by rw [bM];omega,aO _,h4,by rw [h3,←h1,aZ]⟩
theorem V1o {fmt:Int} {raw all want:List UInt8} {at_:Nat} {cf:Nat→Nat} {r:Nat×Nat} {rl:List (Nat×Nat)} {t:List Tk} {tg:List (List Tk)} {g:List UInt8} (h:BsI fmt raw all want at_ cf (r::rl) (t::tg) g):
 at_≤all.length+cf r.1∧cf r.1≤raw.length∧cf r.2≤raw.length∧BsI fmt raw all (want++(((all++raw).take (all.length+cf r.1)).drop at_)++V3 fmt t) (all.length+cf r.2) cf rl tg g:=by
 obtain ⟨c,pend,h1,h2,h3,⟨a1,a2,a3,a4⟩,h5⟩:=h;refine ⟨yY,yY,a3,cf r.2,[],?_,rfl,a3,a4,?_⟩
 ·rw [List.drop_append,dI yY,show all.length+cf r.2 - all.length=cf r.2 by omega]
 ·rw [←h5,sgs,eT,h1,List.take_append,bP yY,show all.length+cf r.1 - at_ - pend.length=cf r.1 - c by omega];simp only [aZ,bJ]
theorem V7e {fmt:Int} {raw all want:List UInt8} {at_:Nat} {cf:Nat→Nat} {tg:List (List Tk)} {g:List UInt8} (h:BsI fmt raw all want at_ cf [] tg g):want++(all++raw).drop at_=g∧at_≤(all++raw).length:=by
 obtain ⟨c,pend,h1,h2,h3,_,h5⟩:=h;refine ⟨by rw [h1,←h5];rfl,by rw [aA];omega⟩
theorem Z4k {fmt:Int} {raw all want:List UInt8} {at_:Nat} {cf:Nat→Nat} {rl:List (Nat×Nat)} {tg:List (List Tk)} {g:List UInt8} (h:BsI fmt raw all want at_ cf rl tg g):want.length≤g.length∧at_≤all.length+raw.length:=by
 obtain ⟨c,pend,h1,h2,h3,_,h5⟩:=h;have:=congrArg List.length h5;rw [aA] at this;exact ⟨yY,yY⟩
/-! ### All targets -/
def F1 (L:List Int):List Pc→Nat→List (List Tk)×Nat
 | [],N=>([],N)
 | p::l,N=>(Q4 (K1 L p.src N).1::(F1 L l (K1 L p.src N).2).1,(F1 L l (K1 L p.src N).2).2)
theorem X4s (L:List Int):∀ (a b:List Pc) (N:Nat),F1 L (a++b) N=((F1 L a N).1++(F1 L b (F1 L a N).2).1,(F1 L b (F1 L a N).2).2)
 | [],b,N=>rfl
 | p::a,b,N=>by rw [aR,F1,F1,X4s L a b];rfl
theorem Q4y (L:List Int):∀ (l:List Pc) (N:Nat),(F1 L l N).1.length=l.length
 | [],_=>rfl
 | p::l,N=>by rw [F1,aG,aG,Q4y L l]
theorem Y2z (L:List Int):∀ (l:List Pc) (N:Nat),AllP (fun p t=>∃ M,t=Q4 (K1 L p.src M).1) l (F1 L l N).1
 | [],_=>trivial
 | p::l,N=>⟨⟨N,rfl⟩,Y2z L l _⟩
theorem Z6z (L:List Int):∀ (l:List Pc) (N:Nat),(∀ p∈l,p.src.length≤400)→(F1 L l N).2≤N+2400 * l.length
 | [],_,_=>yQ
 | p::l,N,h=>by
   have ih:=Z6z L l (K1 L p.src N).2 fun q hq=>h q (by simp [hq]);have h1:=(X2z L p.src N).2.2;have h2:=h p yW;rw [F1,aG];simp only
   omega
theorem Z3t (L:List Int) (l:List Pc) (N i:Nat) (h:i < l.length):
 F1 L (l.take (i+1)) N=((F1 L (l.take i) N).1++[Q4 (K1 L l[i].src (F1 L (l.take i) N).2).1],(K1 L l[i].src (F1 L (l.take i) N).2).2):=by
 rw [aH h,X4s];rfl
theorem V0s (L:List Int) (l:List Pc) (N i:Nat):(F1 L (l.take i) N).1=(F1 L l N).1.take i:=by
 by_cases h:i≤l.length
 ·have e:=X4s L (l.take i) (l.drop i) N;rw [bR] at e;rw [e];have hl:(F1 L (l.take i) N).1.length=i:=(by rw [Q4y,bG];omega);exact (List.take_left' hl).symm
 ·rw [bP yY,bP (by rw [Q4y];omega)]
theorem Y8t (k:Nat) (PP:List Pc) (T:List (List Tk)) (i:Nat) (h:i < PP.length) (ht:i < T.length) (hk:PP[i].pt=k):V4 k (PP.drop i)=(PP[i].lo,PP[i].hi)::V4 k (PP.drop (i+1))∧K7 k (PP.drop i) (T.drop i)=T[i]::K7 k (PP.drop (i+1)) (T.drop (i+1)):=by
 rw [aQ h,aQ ht,V4,K7,aK hk,aK hk];exact ⟨rfl,rfl⟩
theorem V8y (k:Nat) (PP:List Pc) (T:List (List Tk)) (i:Nat) (h:i < PP.length) (ht:i < T.length) (hk:PP[i].pt≠k):V4 k (PP.drop i)=V4 k (PP.drop (i+1))∧K7 k (PP.drop i) (T.drop i)=K7 k (PP.drop (i+1)) (T.drop (i+1)):=by
 rw [aQ h,aQ ht,V4,K7,aE hk,aE hk];exact ⟨rfl,rfl⟩
/-! ### Which pieces are done -/
def X6p (PP:List Pc) (k i n:Nat):Prop:=n≤PP.length∧∀ j (h:j < PP.length),j < n↔(PP[j].pt < k∨(PP[j].pt=k∧j < i))
theorem V7m (PP:List Pc):X6p PP 0 0 0:=⟨aO _,fun j h=>yY⟩
theorem V7l (PP:List Pc) (k n:Nat) (h:X6p PP k PP.length n):X6p PP (k+1) 0 n:=⟨h.1,fun j hj=>by
 have:=h.2 j hj;omega⟩
theorem U3e (PP:List Pc) (k i n:Nat) (h:X6p PP k i n) (hi:i < PP.length) (hk:PP[i].pt≠k):X6p PP k (i+1) n:=⟨h.1,fun j hj=>by
 rw [h.2 j hj];by_cases e:j=i
 ·subst e;omega
 ·omega⟩
theorem U3d (PP:List Pc) (hs:PP.Pairwise fun a b=>a.pt≤b.pt) (k i n:Nat) (h:X6p PP k i n) (hi:i < PP.length) (hk:PP[i].pt=k):n=i:=by
 obtain ⟨h1,h2⟩:=h;have ha:=h2 i hi;by_cases hlt:n < i
 ·have hn:=h2 n yY;have:=fG.1 hs n i yY hi hlt;omega
 ·omega
theorem U1h (PP:List Pc) (hs:PP.Pairwise fun a b=>a.pt≤b.pt) (k i:Nat) (h:X6p PP k i i) (hi:i < PP.length) (hk:PP[i].pt=k):X6p PP k (i+1) (i+1):=⟨hi,fun j hj=>by
 have ha:=h.2 j hj;by_cases e:j=i
 ·subst e;omega
 ·omega⟩
theorem U1g (PP:List Pc) (k n:Nat) (h:X6p PP k 0 n) (ht:∀ p∈PP,p.pt < k):n=PP.length:=by
 obtain ⟨h1,h2⟩:=h;by_cases e:n < PP.length
 ·have:=(h2 n e).2 (.inl (ht _ (aL e)));omega
 ·omega
theorem Z4u (fmt:Int) (r:List UInt8) (h:ElOk fmt r none):fmt=2:=by
 cases h;rfl
def kE (o:Option Tk):Int:=(o.map (·.k)).getD 0
def tE (o:Option Tk):fY:=(o.map (·.t)).getD ⟨#[]⟩
theorem X5y (s:fY) (k:Int) (t:fY) (n:Nat) (w:World) (CM:∀ W,Calls prog 88 #[.string s] W (El7 k t n W)):Calls prog 48 #[.int .i64 1,.string s] w (El7 k t n w):=by
 have HA:=zW ((aB w.heap.size w).alloc yQ (.cells #[.int .i64 0,.string ⟨#[]⟩,.int .i64 0] 31));have HM:=zW CM;clear CM;go_enter func48,ntmps48
 go_wp2_with (go_at_call 88;refine (HM.o _).mono ?_;rintro e w1 ⟨rfl,hb⟩;obtain ⟨z0,z1,z2,y0,y1,y2⟩:=T3 hb;have HB:=zW (HA.o.trans (hb.mono HA.o.size));clear hb)
 refine bO (K9 rfl _ _ w.heap.size k 0 t _ rfl rfl yU yU yU) rfl ?_;exact ⟨rfl,V5 HB.o _ _ _⟩
theorem Z4v (s:fY) (k:Int) (t:fY) (n:Nat) (w:World) (CM:∀ W,Calls prog 89 #[.string s] W (El7 k t n W)):Calls prog 48 #[.int .i64 2,.string s] w (El7 k t n w):=by
 have HA:=zW ((aB w.heap.size w).alloc yQ (.cells #[.int .i64 0,.string ⟨#[]⟩,.int .i64 0] 31));have HM:=zW CM;clear CM;go_enter func48,ntmps48
 go_wp2_with (go_at_call 89;refine (HM.o _).mono ?_;rintro e w1 ⟨rfl,hb⟩;obtain ⟨z0,z1,z2,y0,y1,y2⟩:=T3 hb;have HB:=zW (HA.o.trans (hb.mono HA.o.size));clear hb)
 refine bO (K9 rfl _ _ w.heap.size k 0 t _ rfl rfl yU yU yU) rfl ?_;exact ⟨rfl,V5 HB.o _ _ _⟩
theorem Z4w (s:fY) (k:Int) (t:fY) (n:Nat) (w:World) (CM:∀ W,Calls prog 90 #[.string s] W (El7 k t n W)):Calls prog 48 #[.int .i64 3,.string s] w (El7 k t n w):=by
 have HA:=zW ((aB w.heap.size w).alloc yQ (.cells #[.int .i64 0,.string ⟨#[]⟩,.int .i64 0] 31));have HM:=zW CM;clear CM;go_enter func48,ntmps48
 go_wp2_with (go_at_call 90;refine (HM.o _).mono ?_;rintro e w1 ⟨rfl,hb⟩;obtain ⟨z0,z1,z2,y0,y1,y2⟩:=T3 hb;have HB:=zW (HA.o.trans (hb.mono HA.o.size));clear hb)
 refine bO (K9 rfl _ _ w.heap.size k 0 t _ rfl rfl yU yU yU) rfl ?_;exact ⟨rfl,V5 HB.o _ _ _⟩
theorem Y3v (fmt:Int) (hf:D1 fmt) (s:fY) (r l:List UInt8) (o:Option Tk) (w:World) (hs:s.data.toList=r++l) (hsz:s.size≤1000000) (h:ElOk fmt r o) (hl:o=none→l.head? ≠some 32∧l.head? ≠some 9):
 Calls prog 48 #[.int .i64 fmt,.string s] w (El7 (kE o) (tE o) r.length w):=by
 rcases hf with rfl | rfl | rfl
 ·cases o with
  | none=>exact absurd (Z4u _ _ h) yX
  | some x=>exact X5y s x.k x.t r.length w fun W=>V8q s r l x W hs hsz h
 ·exact Z4v s (kE o) (tE o) r.length w fun W=>V4z s r l o W hs hsz h hl
 ·cases o with
  | none=>exact absurd (Z4u _ _ h) yX
  | some x=>exact Z4w s x.k x.t r.length w fun W=>Z3f s r l x W hs hsz h
theorem Q5v {fn:Func} {t u v x:Tmp} (h:fn.results=#[.tmp t,.tmp u,.tmp v,.tmp x]) (tmps:Array Value) (P:Program) (w:World):
 (results fn tmps).run P w=.ok (.tuple #[tmps.getD t undef,tmps.getD u undef,tmps.getD v undef,tmps.getD x undef]) w:=by
 simp [results,h]
theorem X0g {w:World} {b o:Nat} (u:Value) (k:Nat) (h:k≠b):(w.setCell ⟨b,o,none⟩ u).heap[k]? =w.heap[k]? :=
 aV _ _ _ _ h
theorem Z9c (u:List Tk) (x:Tk):Q4 (Q4 u++[x])=Q4 (u++[x]):=by
 rw [M9,M9,B9 _ (N1 u)]
theorem Z4m:∀ (u:List Tk),(∀ x∈u,x.t.size≤64)→X2 u≤64 * u.length
 | [],_=>by simp [X2]
 | x::u,h=>by
   have h1:=h x yW;have h2:=Z4m u fun y hy=>h y (by simp [hy]);have e:X2 (x::u)=x.t.size+X2 u:=(by simp [X2]);rw [e,aG];omega
theorem U3i (fmt:Int) (r:List UInt8) (x:Tk) (h:ElOk fmt r (some x)) (hk:x.k=1∨x.k=5):x.d=0:=by
 obtain ⟨h1,h2,_⟩:=X1b fmt r _ h x rfl;rcases hk with hk | hk
 ·obtain ⟨c,rfl⟩:=h1 hk;rfl
 ·rcases h2 with h | ⟨_,_,h⟩ | ⟨h,_⟩ | ⟨h,_⟩<;>omega
def U2t (ts:Els) (w:World) (e:Ending) (w':World):Prop:=∃ v vc,e=.returned (.tuple #[v,vc,.int .i64 0,.int .i64 0])∧OwnT 31 w' w.heap.size v (Q4 (X0 ts))∧OwnE 3 V7 1 w' w.heap.size vc (Q9r ts)∧Below w.heap.size w w'
def Q6k (fmt:Int) (bad:List UInt8):Prop:=∀ (s:fY) (W:World),s.data.toList=bad→s.size≤1000000→Calls prog 48 #[.int .i64 fmt,.string s] W (fun e w'=>∃ k t,e=.returned (.tuple #[.agg #[.int .i64 k,.string t,.int .i64 0],.int .i64 0])∧Below W.heap.size W w')
def V0y (ts:Els) (ok:Bool) (w:World) (e:Ending) (w':World):Prop:=if ok=true then U2t ts w e w' else ∃ a b c d,e=.returned (.tuple #[a,b,c,d])∧Below w.heap.size w w'
theorem Z9l (ts:Els) (m j:Nat) (h:j≤m):K4 (ts.take m) j=K4 ts j:=by
 unfold K4;rw [List.take_take,Nat.min_eq_left h]
theorem U1f (raw:fY) (ts:Els) (m:Nat) (bad:List UInt8) (hm:m≤ts.length) (hr:raw.data.toList=Q2 (ts.take m)++bad) (hne:∀ e∈ts,0 < e.1.length) (j:Nat) (hj:j < m):K4 ts j < raw.size∧raw.data.toList.drop (K4 ts j)=(ts[j]'yY).1++(Q2 ((ts.take m).drop (j+1))++bad):=by
 have hl:j < (ts.take m).length:=(by rw [bG];omega);have he:(ts.take m)[j]=ts[j]'yY:=List.getElem_take;have h1:=X6h (ts.take m) j hl (by rw [he];exact hne _ (aL _));have h2:=Q8q (ts.take m) j hl;rw [Z9l ts m j yY] at h1 h2;rw [he] at h2;have hs:raw.size=(Q2 (ts.take m)).length+bad.length:=(by rw [aC,hr,aA]);refine ⟨yY,?_⟩;rw [hr,List.drop_append_of_le_length yY,h2,aZ]
theorem Y2p (fmt:Int) (hf:D1 fmt) (raw:fY) (ts:Els) (m:Nat) (bad:List UInt8) (ok:Bool) (w:World) (h:RawOk fmt ts) (hm:m≤ts.length) (hr:raw.data.toList=Q2 (ts.take m)++bad) (hsz:raw.size≤65536)
 (hok:(ok=true∧m=ts.length∧bad=[])∨(ok=false∧(∀ e∈ts,e.2≠none)∧(bad=[]∧(opJ ts m).2≠[]∨bad≠[]∧Q6k fmt bad))):
 Calls prog 20 #[.int .i64 fmt,.string raw] w (V0y ts ok w):=by
 obtain ⟨R,HM⟩:∃ R:Ending→World→Prop,yK (R=V0y ts ok w):=⟨_,rfl⟩;rw [←HM.o];have ja:=zW (U1f raw ts m bad hm hr (fun e he=>by
  obtain ⟨r,o⟩:=e;exact X7j _ _ _ (h.els _ he)))
 have iX:yK (∀ j,∀ hj:j < m,(ts[j]'yY).2=none→(Q2 ((ts.take m).drop (j+1))++bad).head? ≠some 32∧(Q2 ((ts.take m).drop (j+1))++bad).head? ≠some 9):=fun j hj hn=>by
  rcases hok with ⟨_,rfl,rfl⟩ | ⟨_,hno,_⟩
  ·rw [aW,aX];exact X3m ts fmt j hj h.cont h.els hn
  ·exact absurd hn (hno _ (aL _))
 have iL:yK (K4 ts m+bad.length=raw.size∧raw.data.toList.drop (K4 ts m)=bad):=by
  have e:K4 ts m=(Q2 (ts.take m)).length:=rfl;refine ⟨by rw [e,aC,hr,aA],?_⟩;rw [e,hr,dR]
 have je:=zW hok;have H:=zW h;have jx:=h.len;have jc:=zW hf;clear h hr hf hok;go_enter func20,ntmps20
 go_wp2_with fail
 go_loopg [8,9,10,11,12,13] ts.length (fun gk fv ov cv av dv lv wr=>∃ j,av=.int .i64 (K4 ts j:Nat)∧dv=.int .i64 (Q5k ts j:Nat)∧lv=.int .i64 ((opJ ts j).1:Nat)∧j≤m∧yK (OwnT 31 wr w.heap.size fv (Q4 (X0 (ts.take j))))∧yK (OwnT 31 wr w.heap.size ov (opJ ts j).2.reverse)∧yK (OwnE 3 V7 1 wr w.heap.size cv (csE (ts.take j)))∧yK (Below w.heap.size w wr)∧ts.length - j≤gk)
 case atStart=>exact ⟨0,rfl,rfl,rfl,aO _,OwnE.nil,OwnE.nil,OwnE.nil,aB _ _,yQ⟩
 case round=>
  obtain ⟨j,rfl,rfl,rfl,hj,HF,HO,HC,HB,hgk⟩:=hrel;by_cases hjm:j < m
  ·have HN:j < ts.length:=yY;have HE:=aL HN;have HV:=H.o.els _ HE;obtain ⟨iR,hd⟩:=ja.o j hjm;have iH:=Q1e raw (K4 ts j);rw [hd] at iH;have iO:=Q1g ts (j+1);have iy:yK (K4 ts (j+1)=K4 ts j+ts[j].1.length):=Q2i ts j HN;have jD:K4 ts j+ts[j].1.length≤raw.size:=by
    have:=congrArg List.length hd;rw [bM,aA,←aC] at this;omega
   have iT:(raw.extract (K4 ts j) raw.size).size≤1000000:=(by rw [cJ];omega);have jn:0 < ts[j].1.length:=X7j _ _ _ HV;have iF:((K4 ts j:Nat):Int) < (raw.size:Int):=yY;have jE:(raw.size:Int)≤65536:=yY;have Ha:yK (((K4 ts j:Nat):Int)+((ts[j].1.length:Nat):Int)=((K4 ts (j+1):Nat):Int)):=(by show _=_;rw [iy.o];omega);obtain ⟨An,cn,ia⟩:=Q0 HO.o;subst ia;obtain ⟨Af,cf,iC⟩:=Q0 HF.o;subst iC;obtain ⟨Ac,cc,iB⟩:=Q0 HC.o;subst iB;have hz:=HB.o.size;have hV:=zW (fun W=>Y3v fmt jc.o (raw.extract (K4 ts j) raw.size) ts[j].1 (Q2 ((ts.take m).drop (j+1))++bad) ts[j].2 W iH iT HV (iX.o j hjm));have jB:(((ts[j].1.length:Nat):Int)==0)=false:=(by rw [aI];omega);clear hd iH iT iR;cases hx:ts[j].2 with
   | none=>
     obtain ⟨e1,e2,e3⟩:=Y6t ts j HN hx;have ig:yK (opJ ts (j+1)=opJ ts j):=(by show _=_;unfold opJ;rw [e3]);rw [hx] at hV;change yK (∀ W,Calls prog 48 #[.int .i64 fmt,.string (raw.extract (K4 ts j) raw.size)] W (El7 0 ⟨#[]⟩ ts[j].1.length W)) at hV
     rw [←e1] at HC ⊢;rw [←e2];rw [←e3] at HF ⊢;rw [←ig.o] at HO ⊢;have ib:(opJ ts (j+1)).2.reverse.length=(opJ ts (j+1)).2.length:=cT;rw [ib] at HO ⊢;generalize hln:ts[j].1.length=ln at *;generalize K4 ts j=pj at *;clear ib;clear HV HE hx iy e1 e2 e3 hln;have Hs:yK (∀ w1,Below wr.heap.size wr w1→Below w.heap.size w (w1.alloc (.cells #[.int .i64 0,.string ⟨#[]⟩,.int .i64 0] 31))):=fun w1 h=>(HB.o.trans (h.mono hz)).alloc (aP hz h.size) _;have HR:yK (∀ w1,Below wr.heap.size wr w1→OwnT 31 (w1.alloc (.cells #[.int .i64 0,.string ⟨#[]⟩,.int .i64 0] 31)) w.heap.size (.slice Af (Q4 (X0 (ts.take (j+1)))).length cf) (Q4 (X0 (ts.take (j+1))))):=fun w1 h=>aD (Q7 HF.o fun k hk=>h.block k (HF.o.lt k hk).2) _;have HS:yK (∀ w1,Below wr.heap.size wr w1→OwnT 31 (w1.alloc (.cells #[.int .i64 0,.string ⟨#[]⟩,.int .i64 0] 31)) w.heap.size (.slice An (opJ ts (j+1)).2.length cn) (opJ ts (j+1)).2.reverse):=fun w1 h=>aD (Q7 HO.o fun k hk=>h.block k (HO.o.lt k hk).2) _;have HQ:yK (∀ w1,Below wr.heap.size wr w1→OwnE 3 V7 1 (w1.alloc (.cells #[.int .i64 0,.string ⟨#[]⟩,.int .i64 0] 31)) w.heap.size (.slice Ac (csE (ts.take (j+1))).length cc) (csE (ts.take (j+1)))):=fun w1 h=>aD (Q7 HC.o fun k hk=>h.block k (HC.o.lt k hk).2) _;go_upto_region 6 with (go_at_call 48;refine (hV.o _).mono ?_;rintro e w1 ⟨rfl,hF⟩;have hb:=zW (Hs.o _ hF);have hp:=zW (HR.o _ hF);have hh:=zW (HS.o _ hF);have hs:=zW (HQ.o _ hF);have Hc:=hF.size;clear hF)
     have HX:yK ((w1.alloc (.cells #[.int .i64 0,.string ⟨#[]⟩,.int .i64 0] 31)).heap[w1.heap.size]? =some (.cells #[.int .i64 0,.string ⟨#[]⟩,.int .i64 0] 31)):=aY;have ht:w1.heap.size < (w1.alloc (.cells #[.int .i64 0,.string ⟨#[]⟩,.int .i64 0] 31)).heap.size:=yW;have hY:yK (wr.heap.size≤w1.heap.size):=Hc;have Hh:yK ((Value.slice Af (Q4 (X0 (ts.take (j+1)))).length cf).ownBlock≠some w1.heap.size):=fun e=>by have:=(HF.o.lt _ e).2;have:=hY.o;omega
     have hu:yK ((Value.slice An (opJ ts (j+1)).2.length cn).ownBlock≠some w1.heap.size):=fun e=>by have:=(HO.o.lt _ e).2;have:=hY.o;omega
     have Hg:yK ((Value.slice Ac (csE (ts.take (j+1))).length cc).ownBlock≠some w1.heap.size):=fun e=>by have:=(HC.o.lt _ e).2;have:=hY.o;omega
     have HL:yK (w.heap.size≤w1.heap.size):=aP hz hY.o;clear Hs HR HS HQ HB HF HO HC hV Hc hY;generalize w1.alloc (.cells #[.int .i64 0,.string ⟨#[]⟩,.int .i64 0] 31)=w2 at HX hb hp hh hs ht ⊢;obtain ⟨q,hq⟩:∃ q,yK (q=w1.heap.size):=⟨_,rfl⟩;rw [←hq.o] at HX ht Hh hu Hg HL ⊢;have x0:w2.cell? ⟨q,0,none⟩=some (.int .i64 0):=(bx3 HX.o).1;go_wp2_with fail
     rw [Ha.o];go_roundg (ts.length - (j+1))
     case measure=>omega
     case rel=>exact ⟨j+1,rfl,rfl,rfl,hjm,hp.o,hh.o,hs.o,hb.o,yY⟩
   | some x=>
     obtain ⟨e1,e2⟩:=Y6u ts j HN x hx;have HY:=X1p ts j HN x hx;have ig:yK (opJ ts (j+1)=B6 [x] (opJ ts j).1 (opJ ts j).2):=(by show _=_;unfold opJ;rw [HY,Q4n]);have ij:ElOk fmt ts[j].1 (some x):=(by rw [←hx];exact HV);have iP:=Z4t fmt ts[j].1 (some x) ij x rfl;have jw:=X1c fmt ts[j].1 x ij;have HU:=U3i fmt ts[j].1 x ij;have HP:=Q1k (X0 (ts.take j)) 0 [];have iA:=Q5h (ts.take j);have jq:=N0 (X0 (ts.take j));have jo:X2 (Q4 (X0 (ts.take j)))≤64 * (X0 (ts.take j)).length:=by
      rw [Q1j];exact Z4m _ (X7x fmt (ts.take j) fun e he=>H.o.els e (bY he))
     rw [HY,aA,bZ] at iO;have it:yK (NumOk (x::X0 (ts.drop (j+1))) (opJ ts j).1 (opJ ts j).2):=by
      have e1:X0 ts=X0 (ts.take j)++(x::X0 (ts.drop (j+1))):=by
       conv=>lhs;rw [←bR j ts,M0,aQ HN]
       congr 1;rw [show X0 (ts[j]::ts.drop (j+1))=X0 [ts[j]]++X0 (ts.drop (j+1)) from M0 [ts[j]] _];simp [X0,hx]
      have h1:=H.o.num;rw [e1] at h1;exact Q0m _ _ _ _ h1
     have jf:yK (∀ y∈(opJ ts j).2,y.t.size≤64):=fun y hy=>by
      rcases Q4o _ _ _ y hy with h | h
      ·simp at h
      ·exact X7x fmt (ts.take j) (fun e he=>H.o.els e (bY he)) y h
     have Hk:yK (Q4 (Q4 (X0 (ts.take j))++[x])=Q4 (X0 (ts.take (j+1)))):=(by show _=_;rw [HY,Z9c]);have jA:(Q4 (X0 (ts.take (j+1)))).length≤500:=aP (N0 _) (by rw [HY,aA,bZ];omega);have ic:yK (csE (ts.take (j+1))=csE (ts.take j)++[(Q5k ts j:Int)]):=e1;have ie:yK (Q5k ts (j+1)=K4 ts (j+1)):=e2;have js:(opJ ts j).2.length≤500∧(opJ ts j).1≤500:=(by simp at HP;unfold opJ;omega);rw [hx] at hV;change yK (∀ W,Calls prog 48 #[.int .i64 fmt,.string (raw.extract (K4 ts j) raw.size)] W (El7 x.k x.t ts[j].1.length W)) at hV
     generalize Q4 (X0 (ts.take j))=f at *;generalize csE (ts.take j)=cs at *;have jm:cs.length≤500:=yY;have jz:f.length≤500:=yY;have jy:X2 f≤32000:=yY;have Hi:yK ((opJ ts (j+1)).1=(B6 [x] (opJ ts j).1 (opJ ts j).2).1∧(opJ ts (j+1)).2=(B6 [x] (opJ ts j).1 (opJ ts j).2).2):=(by show _∧_;rw [ig.o];exact ⟨rfl,rfl⟩);generalize (opJ ts j).1=cnt at *;generalize (opJ ts j).2=op at *;generalize Q5k ts j=ej at *;generalize hln:ts[j].1.length=ln at *;generalize K4 ts j=pj at *;obtain ⟨iD,jt⟩:=js;have ib:op.reverse.length=op.length:=cT;rw [ib] at HO ⊢;clear HV HE hx iy e1 e2 HY ij HP iA jq jo iO hln ig ib;obtain ⟨k,t,d⟩:=x;simp only at iP jw hV HU;have iZ:=zW HU;clear HU;have CCA:yK (∀ (d':Int) (va vb:Value) (W:World),RdT W va f→RdT W vb [⟨k,t,d'⟩]→Calls prog 8 #[va,vb] W (N6 31 tkC 3 W (Q4 (f++[⟨k,t,d'⟩])))):=fun d' va vb W h1 h2=>Q1o f [⟨k,t,d'⟩] va vb W h1 h2 yV (by
      have e:X2 [(⟨k,t,d'⟩:Tk)]=t.size:=F6 _;rw [e];omega)
     have t0:(k==0)=false:=(by rw [aI];omega);have Hs:yK (∀ w1,Below wr.heap.size wr w1→Below w.heap.size w (w1.alloc (.cells #[.int .i64 k,.string t,.int .i64 0] 31))):=fun w1 h=>(HB.o.trans (h.mono hz)).alloc (aP hz h.size) _;have HR:yK (∀ w1,Below wr.heap.size wr w1→OwnT 31 (w1.alloc (.cells #[.int .i64 k,.string t,.int .i64 0] 31)) w.heap.size (.slice Af f.length cf) f):=fun w1 h=>aD (Q7 HF.o fun k hk=>h.block k (HF.o.lt k hk).2) _;have HS:yK (∀ w1,Below wr.heap.size wr w1→OwnT 31 (w1.alloc (.cells #[.int .i64 k,.string t,.int .i64 0] 31)) w.heap.size (.slice An op.length cn) op.reverse):=fun w1 h=>aD (Q7 HO.o fun k hk=>h.block k (HO.o.lt k hk).2) _;have HQ:yK (∀ w1,Below wr.heap.size wr w1→OwnE 3 V7 1 (w1.alloc (.cells #[.int .i64 k,.string t,.int .i64 0] 31)) w.heap.size (.slice Ac cs.length cc) cs):=fun w1 h=>aD (Q7 HC.o fun k hk=>h.block k (HC.o.lt k hk).2) _;go_upto_region 6 with (go_at_call 48;refine (hV.o _).mono ?_;rintro e w1 ⟨rfl,hF⟩;have hb:=zW (Hs.o _ hF);have hp:=zW (HR.o _ hF);have hh:=zW (HS.o _ hF);have hs:=zW (HQ.o _ hF);have Hc:=hF.size;clear hF)
     have HX:yK ((w1.alloc (.cells #[.int .i64 k,.string t,.int .i64 0] 31)).heap[w1.heap.size]? =some (.cells #[.int .i64 k,.string t,.int .i64 0] 31)):=aY;have ht:w1.heap.size < (w1.alloc (.cells #[.int .i64 k,.string t,.int .i64 0] 31)).heap.size:=yW;have hY:yK (wr.heap.size≤w1.heap.size):=Hc;have Hh:yK ((Value.slice Af f.length cf).ownBlock≠some w1.heap.size):=fun e=>by have:=(HF.o.lt _ e).2;have:=hY.o;omega
     have hu:yK ((Value.slice An op.length cn).ownBlock≠some w1.heap.size):=fun e=>by have:=(HO.o.lt _ e).2;have:=hY.o;omega
     have Hg:yK ((Value.slice Ac cs.length cc).ownBlock≠some w1.heap.size):=fun e=>by have:=(HC.o.lt _ e).2;have:=hY.o;omega
     have HL:yK (w.heap.size≤w1.heap.size):=aP hz hY.o;clear Hs HR HS HQ HB HF HO HC hV Hc hY;generalize w1.alloc (.cells #[.int .i64 k,.string t,.int .i64 0] 31)=w2 at HX hb hp hh hs ht ⊢;obtain ⟨q,hq⟩:∃ q,yK (q=w1.heap.size):=⟨_,rfl⟩;rw [←hq.o] at HX ht Hh hu Hg HL ⊢;have x0:w2.cell? ⟨q,0,none⟩=some (.int .i64 k):=(bx3 HX.o).1;rcases iP with hk | hk
     ·have t2:(k==2)=false:=(by rw [aI];omega);have t3:(k==3)=false:=(by rw [aI];omega);have t4:(k==4)=false:=(by rw [aI];omega);obtain ⟨g1,g2⟩:=Hi.o;rw [X6f _ _ _ hk] at g1 g2;have Hv:=zW g1;have Hw:=zW g2;have HU:d=0:=iZ.o hk;subst HU;clear g1 g2 Hi hk x0;have x0:=(bx3 HX.o).1;have x1:=(bx3 HX.o).2.1;have x2:=(bx3 HX.o).2.2.1;have Hb:yK ((w2.alloc (.cells #[.int .i64 k,.string t,.int .i64 0] 31)).heap[q]? =some (.cells #[.int .i64 k,.string t,.int .i64 0] 31)):=(bE w2 _ q ht).trans HX.o;have hX:=zW (aD hp.o (.cells #[.int .i64 k,.string t,.int .i64 0] 31));have hD:=zW (aD hh.o (.cells #[.int .i64 k,.string t,.int .i64 0] 31));have hH:=zW (aD hs.o (.cells #[.int .i64 k,.string t,.int .i64 0] 31));have hB:=zW (hb.o.alloc hb.o.size (.cells #[.int .i64 k,.string t,.int .i64 0] 31));have hZ:yK (RdT (w2.alloc (.cells #[.int .i64 k,.string t,.int .i64 0] 31)) (.slice (some ⟨w2.heap.size,0,none⟩) 1 1) [⟨k,t,0⟩]):=Z3 tkC 3 Q5 w2 _ rfl (⟨k,t,0⟩:Tk) _;have HJ:=hb.o.size;have ho:q < (w2.alloc (.cells #[.int .i64 k,.string t,.int .i64 0] 31)).heap.size:=yV;have CC3:=zW (CCA.o (0) (.slice Af f.length cf) (.slice (some ⟨w2.heap.size,0,none⟩) 1 1) (w2.alloc (.cells #[.int .i64 k,.string t,.int .i64 0] 31)) (OwnE.rd Q5 hX.o) hZ.o);rw [Hk.o] at CC3;clear hp hh hs hb hX hZ Hk CCA HX ht;go_upto_region 22 with (go_at_call 8;refine (CC3.o).mono ?_;rintro e w5 ⟨v5,rfl,He,Hd⟩;have hC:=zW He;have ha:=zW Hd;clear He Hd)
      obtain ⟨Ag,cg,HI⟩:=Q0 hC.o;subst HI;have hw:=zW ((ha.o.block q ho).trans Hb.o);have hU:=zW (Q7 hD.o fun i hi=>ha.o.block i (hD.o.lt i hi).2);have Hf:=zW (Q7 hH.o fun i hi=>ha.o.block i (hH.o.lt i hi).2);have hu:yK (∀ i,(Value.slice Ag (Q4 (X0 (ts.take (j+1)))).length cg).ownBlock=some i→((.slice An op.length cn):Value).ownBlock≠some i):=fun i hi e=>by have h1:=(hC.o.lt i hi).1;have h2:=(hD.o.lt i e).2;omega
      have hG:=zW (hB.o.trans (ha.o.mono hB.o.size));have Hj:=zW (Y3 hC.o hB.o.size);have ii:q < w5.heap.size:=bC ho ha.o.size;clear Hb hD hH hB ha hC CC3 ho x0 x1 x2 HJ;have x0:=(bx3 hw.o).1;have x1:=(bx3 hw.o).2.1;have x2:=(bx3 hw.o).2.2.1;have u1:¬ (512:Int) < ((Q4 (X0 (ts.take (j+1)))).length:Int):=yY;have u2:¬ (1024:Int)≤(cs.length:Int):=yY;have Hr:=hG.o.size;go_upto_region 26 with fail
      have hJ:yK (OwnT 31 w5 w.heap.size (.slice An op.length cn) (opJ ts (j+1)).2.reverse):=(by show OwnE _ _ _ _ _ _ _;rw [Hw.o];exact hU.o);clear hu hw hU x0 x1 x2 Hr;have HK:=hG.o.size;have hK:=zW (aD hJ.o (.cells #[.int .i64 (ej:Nat)] 3));have hI:=zW (aD Hj.o (.cells #[.int .i64 (ej:Nat)] 3));have hE:=zW (aD Hf.o (.cells #[.int .i64 (ej:Nat)] 3));have hT:=zW (hG.o.alloc HK (.cells #[.int .i64 (ej:Nat)] 3));have Hz:=zW (O5 hK.o hE.o yX);have Hy:=zW (O5 hI.o hE.o yX);go_wp2_with (at_builtin;go_loud (refine V2 rfl (.tmp 97) (.tmp 99) 22 3 rfl underlying22 _ V7 1 8 C9 rfl yX K6 Q0i w.heap.size _ cs rfl (by exact hE.o) _ [(ej:Int)] rfl (by exact Z3 V7 1 K6 _ _ yW (ej:Int) _) yV yX hT.o.size ?_);intro v9 w9 hg hc hl;have Hu:=zW hg;have Ht:=zW (hc w.heap.size w yQ hT.o);have HA:=zW (Q7 hK.o fun i hi=>hl.block i (hK.o.lt i hi).2 (fun e=>Hz.o i hi e.symm));have Hx:=zW (Q7 hI.o fun i hi=>hl.block i (hI.o.lt i hi).2 (fun e=>Hy.o i hi e.symm));clear hg hc hl)
      rw [Ha.o];go_roundg (ts.length - (j+1))
      case measure=>omega
      case rel=>exact ⟨j+1,rfl,by rw [ie.o],congrArg (fun (n:Nat)=>Value.int .i64 (n:Int)) Hv.o.symm,hjm,Hx.o,HA.o,by show OwnE _ _ _ _ _ _ _;rw [ic.o];exact Hu.o,Ht.o,yY⟩
     ·rcases hk with hk | hk | hk
      ·subst hk;have hN:=it.o;unfold NumOk at hN;rw [aK rfl] at hN;have hd':d=(cnt:Int)+1:=hN.1;subst hd';obtain ⟨g1,g2⟩:=Hi.o;have g1':(opJ ts (j+1)).1=cnt+1:=g1;have g2':(opJ ts (j+1)).2=⟨2,t,(cnt:Int)+1⟩::op:=g2;have Hv:=zW g1';have Hw:=zW g2';clear g1 g2 g1' g2' Hi hN x0;obtain ⟨x0,x1,x2,z0,z1,z2⟩:=bx3 HX.o;go_upto_region 21 with fail
       have hR:yK ((w2.setCell ⟨q,2,none⟩ (.int .i64 ((cnt:Int)+1))).heap[q]? =some (.cells #[.int .i64 2,.string t,.int .i64 ((cnt:Int)+1)] 31)):=by
        have:=W8 HX.o 2 (.int .i64 (((cnt:Int)+1)));show _=_;simpa using this
       have Hp:w.heap.size≤q:=(by have:=HL.o;omega);have hL:=zW (hb.o.setCell (p:=⟨q,2,none⟩) Hp (.int .i64 ((cnt:Int)+1)));have hS:q < (w2.setCell ⟨q,2,none⟩ (.int .i64 ((cnt:Int)+1))).heap.size:=(by simpa using ht);have hP:yK (∀ {e:TypeId} {m n:Nat} {v:Value} {xs:List Value},w2.ownsRow w.heap.size e m v n xs→v.ownBlock≠some q→(w2.setCell ⟨q,2,none⟩ (.int .i64 ((cnt:Int)+1))).ownsRow w.heap.size e m v n xs):=fun h HG=>Q7 h fun i hi=>X0g _ i (fun e=>HG (by rw [hi,e]));have hO:=zW (hP.o hp.o Hh.o);have hQ:=zW (hP.o hh.o hu.o);have hM:=zW (hP.o hs.o Hg.o);clear x0 x1 x2 z0 z1 z2 HX hb hp hh hs ht Hp hP Hh hu Hg;generalize w2.setCell ⟨q,2,none⟩ (.int .i64 ((cnt:Int)+1))=w3 at hR hL hO hQ hM hS ⊢;obtain ⟨w2,Hq⟩:∃ w2,yK (w2=w3):=⟨_,rfl⟩;rw [←Hq.o] at hR hL hO hQ hM hS ⊢;clear Hq;have HX:=hR;have hb:=hL;have hp:=hO;have hh:=hQ;have hs:=hM;have ht:=hS;clear hR hL hO hQ hM hS;have x0:=(bx3 HX.o).1;have x1:=(bx3 HX.o).2.1;have x2:=(bx3 HX.o).2.2.1;have Hb:yK ((w2.alloc (.cells #[.int .i64 2,.string t,.int .i64 ((cnt:Int)+1)] 31)).heap[q]? =some (.cells #[.int .i64 2,.string t,.int .i64 ((cnt:Int)+1)] 31)):=(bE w2 _ q ht).trans HX.o;have hX:=zW (aD hp.o (.cells #[.int .i64 2,.string t,.int .i64 ((cnt:Int)+1)] 31));have hD:=zW (aD hh.o (.cells #[.int .i64 2,.string t,.int .i64 ((cnt:Int)+1)] 31));have hH:=zW (aD hs.o (.cells #[.int .i64 2,.string t,.int .i64 ((cnt:Int)+1)] 31));have hB:=zW (hb.o.alloc hb.o.size (.cells #[.int .i64 2,.string t,.int .i64 ((cnt:Int)+1)] 31));have hZ:yK (RdT (w2.alloc (.cells #[.int .i64 2,.string t,.int .i64 ((cnt:Int)+1)] 31)) (.slice (some ⟨w2.heap.size,0,none⟩) 1 1) [⟨2,t,((cnt:Int)+1)⟩]):=Z3 tkC 3 Q5 w2 _ rfl (⟨2,t,((cnt:Int)+1)⟩:Tk) _;have HJ:=hb.o.size;have ho:q < (w2.alloc (.cells #[.int .i64 2,.string t,.int .i64 ((cnt:Int)+1)] 31)).heap.size:=yV;have CC3:=zW (CCA.o (((cnt:Int)+1)) (.slice Af f.length cf) (.slice (some ⟨w2.heap.size,0,none⟩) 1 1) (w2.alloc (.cells #[.int .i64 2,.string t,.int .i64 ((cnt:Int)+1)] 31)) (OwnE.rd Q5 hX.o) hZ.o);rw [Hk.o] at CC3;clear hp hh hs hb hX hZ Hk CCA HX ht;go_upto_region 22 with (go_at_call 8;refine (CC3.o).mono ?_;rintro e w5 ⟨v5,rfl,He,Hd⟩;have hC:=zW He;have ha:=zW Hd;clear He Hd)
       obtain ⟨Ag,cg,HI⟩:=Q0 hC.o;subst HI;have hw:=zW ((ha.o.block q ho).trans Hb.o);have hU:=zW (Q7 hD.o fun i hi=>ha.o.block i (hD.o.lt i hi).2);have Hf:=zW (Q7 hH.o fun i hi=>ha.o.block i (hH.o.lt i hi).2);have hu:yK (∀ i,(Value.slice Ag (Q4 (X0 (ts.take (j+1)))).length cg).ownBlock=some i→((.slice An op.length cn):Value).ownBlock≠some i):=fun i hi e=>by have h1:=(hC.o.lt i hi).1;have h2:=(hD.o.lt i e).2;omega
       have hG:=zW (hB.o.trans (ha.o.mono hB.o.size));have Hj:=zW (Y3 hC.o hB.o.size);have ii:q < w5.heap.size:=bC ho ha.o.size;clear Hb hD hH hB ha hC CC3 ho x0 x1 x2 HJ;have x0:=(bx3 hw.o).1;have x1:=(bx3 hw.o).2.1;have x2:=(bx3 hw.o).2.2.1;have u1:¬ (512:Int) < ((Q4 (X0 (ts.take (j+1)))).length:Int):=yY;have u2:¬ (1024:Int)≤(cs.length:Int):=yY;have Hr:=hG.o.size;have jg:yK ((w5.alloc (.cells #[.int .i64 2,.string t,.int .i64 ((cnt:Int)+1)] 31)).heap[q]? =some (.cells #[.int .i64 2,.string t,.int .i64 ((cnt:Int)+1)] 31)):=(bE w5 _ q ii).trans hw.o;have iu:=zW (aD hU.o (.cells #[.int .i64 2,.string t,.int .i64 ((cnt:Int)+1)] 31));have im:=zW (aD Hf.o (.cells #[.int .i64 2,.string t,.int .i64 ((cnt:Int)+1)] 31));have iq:=zW (aD Hj.o (.cells #[.int .i64 2,.string t,.int .i64 ((cnt:Int)+1)] 31));have ik:=zW (hG.o.alloc Hr (.cells #[.int .i64 2,.string t,.int .i64 ((cnt:Int)+1)] 31));have iv:=zW (O5 Hf.o hU.o yX);have HH:op.reverse.length=op.length:=cT;rw [←HH] at iu hu iv ⊢;go_upto_region 26 with (at_builtin;go_loud (refine V2 rfl (.tmp 92) (.tmp 94) 24 31 rfl underlying24 _ tkC 3 32 Z8 rfl yX Q5 D4 w.heap.size _ op.reverse rfl (by exact iu.o) _ [(⟨2,t,((cnt:Int)+1)⟩:Tk)] rfl (by exact Z3 tkC 3 Q5 w5 _ rfl (⟨2,t,((cnt:Int)+1)⟩:Tk) _) (by rw [HH];simp;omega) yX ik.o.size ?_);intro v7 w7 Hn Hl HD;have iJ:=zW Hn;have iI:=zW (Hl w.heap.size w yQ ik.o);have jd:=zW (Q7 iq.o fun i hi=>HD.block i (iq.o.lt i hi).2 (fun e=>hu.o i hi e.symm));have iW:=zW (Q7 im.o fun i hi=>HD.block i (im.o.lt i hi).2 (fun e=>iv.o i hi e.symm));clear Hn Hl HD)
       have iK:yK (op.reverse++[⟨2,t,((cnt:Int)+1)⟩]=(opJ ts (j+1)).2.reverse):=(by show _=_;rw [Hw.o,fA]);have hJ:yK (OwnT 31 w7 w.heap.size v7 (opJ ts (j+1)).2.reverse):=(by show OwnE _ _ _ _ _ _ _;rw [←iK.o];exact iJ.o);clear jg iu im iq ik iv hu iJ hw hU Hf Hj hG iK x0 x1 x2 Hr HH;have HK:=iI.o.size;have hK:=zW (aD hJ.o (.cells #[.int .i64 (ej:Nat)] 3));have hI:=zW (aD jd.o (.cells #[.int .i64 (ej:Nat)] 3));have hE:=zW (aD iW.o (.cells #[.int .i64 (ej:Nat)] 3));have hT:=zW (iI.o.alloc HK (.cells #[.int .i64 (ej:Nat)] 3));have Hz:=zW (O5 hK.o hE.o yX);have Hy:=zW (O5 hI.o hE.o yX);go_wp2_with (at_builtin;go_loud (refine V2 rfl (.tmp 97) (.tmp 99) 22 3 rfl underlying22 _ V7 1 8 C9 rfl yX K6 Q0i w.heap.size _ cs rfl (by exact hE.o) _ [(ej:Int)] rfl (by exact Z3 V7 1 K6 _ _ yW (ej:Int) _) yV yX hT.o.size ?_);intro v9 w9 hg hc hl;have Hu:=zW hg;have Ht:=zW (hc w.heap.size w yQ hT.o);have HA:=zW (Q7 hK.o fun i hi=>hl.block i (hK.o.lt i hi).2 (fun e=>Hz.o i hi e.symm));have Hx:=zW (Q7 hI.o fun i hi=>hl.block i (hI.o.lt i hi).2 (fun e=>Hy.o i hi e.symm));clear hg hc hl)
       rw [Ha.o];go_roundg (ts.length - (j+1))
       case measure=>omega
       case rel=>exact ⟨j+1,rfl,by rw [ie.o],congrArg (fun (n:Nat)=>Value.int .i64 (n:Int)) Hv.o.symm,hjm,Hx.o,HA.o,by show OwnE _ _ _ _ _ _ _;rw [ic.o];exact Hu.o,Ht.o,yY⟩
      ·subst hk;have hN:=it.o;unfold NumOk at hN;rw [aE (show ¬ (3:Int)=2 by decide),aE (show ¬ (3:Int)=4 by decide),aK rfl] at hN;obtain ⟨y,op',ih,hy,iU,_⟩:=hN;subst ih;have hyd':d=y.d:=iU;subst hyd';have hy':J8 y.t=t:=hy;obtain ⟨g1,g2⟩:=Hi.o;have g1':(opJ ts (j+1)).1=cnt:=g1;have g2':(opJ ts (j+1)).2=op':=g2;have Hv:=zW g1';have Hw:=zW g2';have iV:=jf.o y yW;clear g1 g2 g1' g2' Hi iU hy x0;have HP:(y::op').length=op'.length+1:=rfl;have iS:(y::op').reverse=op'.reverse++[y]:=fA;have HZ:op'.reverse.length=op'.length:=cT;have iM:yK (∀ W,OwnT 31 W w.heap.size (.slice An (op'.length+1) cn) (op'.reverse++[y])→∃ b,An=some ⟨b,0,none⟩∧b < W.heap.size∧W.cell? ⟨b,op'.length * 3,none⟩=some (.int .i64 y.k)∧W.cell? ⟨b,op'.length * 3+1,none⟩=some (.string y.t)∧W.cell? ⟨b,op'.length * 3+2,none⟩=some (.int .i64 y.d)):=fun W hW=>by
        obtain ⟨g,cap,hv,_,iE⟩:=OwnT.unsnoc hW;obtain ⟨p1,p2,p3⟩:=OwnT.lastCells iE;injection hv with hA _ _;rw [HZ] at p1 p2 p3;exact ⟨g,hA,World.block_lt_of_cell? _ _ p1,p1,p2,p3⟩
       rw [iS] at hh;rw [HP] at hh hu ⊢;obtain ⟨bo,jh,jj,p0,p1,p2⟩:=iM.o _ hh.o;subst jh;have ir:=zW (fun (W:World) (hW:OwnT 31 W w.heap.size (.slice (some ⟨bo,0,none⟩) (op'.length+1) cn) (op'.reverse++[y]))=>Y8q Q5 (A:=some ⟨bo,0,none⟩) (n:=op'.length+1) (c:=cn) (l:=op'.reverse++[y]) hW op'.length yW);rw [show (op'.reverse++[y]).take op'.length=op'.reverse by rw [←HZ,eH]] at ir;have CN:=zW (fun W=>B8 y.t W yY);change yK (∀ W,Calls prog 36 #[.string y.t] W fun e w'=>e=.returned (.string (J8 y.t))∧W=w') at CN
       rw [hy'] at CN;have t5:(t.toList != t.toList)=false:=yW;have jp:¬ ((op'.length:Int) < 0):=yY;have ju:op'.length≤500:=(by rw [HP] at iD;omega);generalize hyk:y.k=yk at p0;generalize hyt:y.t=yt at p1 CN iV;generalize hydd:y.d=yd at *;have jv:((op'.length+1:Nat):Int) - 1=(op'.length:Int):=yY;obtain ⟨x0,x1,x2,z0,z1,z2⟩:=bx3 HX.o;have jC:((op'.length:Nat):Int) < ((op'.length+1:Nat):Int):=yY;clear iS hyk hyt iV hy' iM;go_upto_region 17 with fail
       go_quiet ((go_at_call 36;exact X9b (CN.o _)))
       have jk:op'.length+1≤cn:=(by have:=RdE.cap (OwnE.rd Q5 hh.o);simpa using this);have jl:((op'.length:Nat):Int)≤(cn:Int):=yY;have iz:yK ((w2.drewN nq).heap[q]? =some (.cells #[.int .i64 3,.string t,.int .i64 0] 31)):=HX.o;have il:yK (Below w.heap.size w (w2.drewN nq)):=Q1 hb.o nq;have ip:yK (OwnT 31 (w2.drewN nq) w.heap.size (.slice Af f.length cf) f):=hp.o;have ix:yK (OwnT 31 (w2.drewN nq) w.heap.size (.slice (some ⟨bo,0,none⟩) (op'.length+1) cn) (op'.reverse++[y])):=hh.o;have io:yK (OwnE 3 V7 1 (w2.drewN nq) w.heap.size (.slice Ac cs.length cc) cs):=hs.o;have iG:q < (w2.drewN nq).heap.size:=ht;have pq2:(w2.drewN nq).cell? ⟨bo,op'.length * 3+2,none⟩=some (.int .i64 yd):=p2;clear HX hb hp hh hs ht p0 p1 p2 x0 x1 x2 z0 z1 z2 jj jk;generalize w2.drewN nq=wq at *;obtain ⟨w2',Hq⟩:∃ w2',yK (w2'=wq):=⟨_,rfl⟩;rw [←Hq.o] at iz il ip ix io iG pq2 ⊢;clear Hq;have HX:=iz;have hb:=il;have hp:=ip;have hh:=ix;have hs:=io;have ht:=iG;clear iz il ip ix io iG;obtain ⟨x0,x1,x2,z0,z1,z2⟩:=bx3 HX.o;go_upto_region 21 with fail
       have hR:yK ((w2'.setCell ⟨q,2,none⟩ (.int .i64 yd)).heap[q]? =some (.cells #[.int .i64 3,.string t,.int .i64 yd] 31)):=by
        have:=W8 HX.o 2 (.int .i64 (yd));show _=_;simpa using this
       have Hp:w.heap.size≤q:=(by have:=HL.o;omega);have hL:=zW (hb.o.setCell (p:=⟨q,2,none⟩) Hp (.int .i64 yd));have hS:q < (w2'.setCell ⟨q,2,none⟩ (.int .i64 yd)).heap.size:=(by simpa using ht);have hP:yK (∀ {e:TypeId} {m n:Nat} {v:Value} {xs:List Value},w2'.ownsRow w.heap.size e m v n xs→v.ownBlock≠some q→(w2'.setCell ⟨q,2,none⟩ (.int .i64 yd)).ownsRow w.heap.size e m v n xs):=fun h HG=>Q7 h fun i hi=>X0g _ i (fun e=>HG (by rw [hi,e]));have hO:=zW (hP.o hp.o Hh.o);have hQ:=zW (hP.o hh.o hu.o);have hM:=zW (hP.o hs.o Hg.o);clear x0 x1 x2 z0 z1 z2 HX hb hp hh hs ht Hp hP Hh hu Hg;generalize w2'.setCell ⟨q,2,none⟩ (.int .i64 yd)=w3 at hR hL hO hQ hM hS ⊢;obtain ⟨w2,iN⟩:∃ w2,yK (w2=w3):=⟨_,rfl⟩;rw [←iN.o] at hR hL hO hQ hM hS ⊢;clear iN;have HX:=hR;have hb:=hL;have hp:=hO;have hh:=hQ;have hs:=hM;have ht:=hS;clear hR hL hO hQ hM hS;have HT:yK (OwnT 31 w2 w.heap.size (.slice (some ⟨bo,0,none⟩) op'.length cn) op'.reverse):=ir.o _ hh.o;clear hh ir;have hh:=HT;clear HT;have x0:=(bx3 HX.o).1;have x1:=(bx3 HX.o).2.1;have x2:=(bx3 HX.o).2.2.1;have Hb:yK ((w2.alloc (.cells #[.int .i64 3,.string t,.int .i64 yd] 31)).heap[q]? =some (.cells #[.int .i64 3,.string t,.int .i64 yd] 31)):=(bE w2 _ q ht).trans HX.o;have hX:=zW (aD hp.o (.cells #[.int .i64 3,.string t,.int .i64 yd] 31));have hD:=zW (aD hh.o (.cells #[.int .i64 3,.string t,.int .i64 yd] 31));have hH:=zW (aD hs.o (.cells #[.int .i64 3,.string t,.int .i64 yd] 31));have hB:=zW (hb.o.alloc hb.o.size (.cells #[.int .i64 3,.string t,.int .i64 yd] 31));have hZ:yK (RdT (w2.alloc (.cells #[.int .i64 3,.string t,.int .i64 yd] 31)) (.slice (some ⟨w2.heap.size,0,none⟩) 1 1) [⟨3,t,yd⟩]):=Z3 tkC 3 Q5 w2 _ rfl (⟨3,t,yd⟩:Tk) _;have HJ:=hb.o.size;have ho:q < (w2.alloc (.cells #[.int .i64 3,.string t,.int .i64 yd] 31)).heap.size:=yV;have CC3:=zW (CCA.o (yd) (.slice Af f.length cf) (.slice (some ⟨w2.heap.size,0,none⟩) 1 1) (w2.alloc (.cells #[.int .i64 3,.string t,.int .i64 yd] 31)) (OwnE.rd Q5 hX.o) hZ.o);rw [Hk.o] at CC3;clear hp hh hs hb hX hZ Hk CCA HX ht;go_upto_region 22 with (go_at_call 8;refine (CC3.o).mono ?_;rintro e w5 ⟨v5,rfl,He,Hd⟩;have hC:=zW He;have ha:=zW Hd;clear He Hd)
       obtain ⟨Ag,cg,HI⟩:=Q0 hC.o;subst HI;have hw:=zW ((ha.o.block q ho).trans Hb.o);have hU:=zW (Q7 hD.o fun i hi=>ha.o.block i (hD.o.lt i hi).2);have Hf:=zW (Q7 hH.o fun i hi=>ha.o.block i (hH.o.lt i hi).2);have hu:yK (∀ i,(Value.slice Ag (Q4 (X0 (ts.take (j+1)))).length cg).ownBlock=some i→((.slice (some ⟨bo,0,none⟩) op'.length cn):Value).ownBlock≠some i):=fun i hi e=>by have h1:=(hC.o.lt i hi).1;have h2:=(hD.o.lt i e).2;omega
       have hG:=zW (hB.o.trans (ha.o.mono hB.o.size));have Hj:=zW (Y3 hC.o hB.o.size);have ii:q < w5.heap.size:=bC ho ha.o.size;clear Hb hD hH hB ha hC CC3 ho x0 x1 x2 HJ;have x0:=(bx3 hw.o).1;have x1:=(bx3 hw.o).2.1;have x2:=(bx3 hw.o).2.2.1;have u1:¬ (512:Int) < ((Q4 (X0 (ts.take (j+1)))).length:Int):=yY;have u2:¬ (1024:Int)≤(cs.length:Int):=yY;have Hr:=hG.o.size;go_upto_region 26 with fail
       have hJ:yK (OwnT 31 w5 w.heap.size (.slice (some ⟨bo,0,none⟩) op'.length cn) (opJ ts (j+1)).2.reverse):=(by show OwnE _ _ _ _ _ _ _;rw [Hw.o];exact hU.o);clear hu hw hU x0 x1 x2 Hr;have HK:=hG.o.size;have hK:=zW (aD hJ.o (.cells #[.int .i64 (ej:Nat)] 3));have hI:=zW (aD Hj.o (.cells #[.int .i64 (ej:Nat)] 3));have hE:=zW (aD Hf.o (.cells #[.int .i64 (ej:Nat)] 3));have hT:=zW (hG.o.alloc HK (.cells #[.int .i64 (ej:Nat)] 3));have Hz:=zW (O5 hK.o hE.o yX);have Hy:=zW (O5 hI.o hE.o yX);go_wp2_with (at_builtin;go_loud (refine V2 rfl (.tmp 97) (.tmp 99) 22 3 rfl underlying22 _ V7 1 8 C9 rfl yX K6 Q0i w.heap.size _ cs rfl (by exact hE.o) _ [(ej:Int)] rfl (by exact Z3 V7 1 K6 _ _ yW (ej:Int) _) yV yX hT.o.size ?_);intro v9 w9 hg hc hl;have Hu:=zW hg;have Ht:=zW (hc w.heap.size w yQ hT.o);have HA:=zW (Q7 hK.o fun i hi=>hl.block i (hK.o.lt i hi).2 (fun e=>Hz.o i hi e.symm));have Hx:=zW (Q7 hI.o fun i hi=>hl.block i (hI.o.lt i hi).2 (fun e=>Hy.o i hi e.symm));clear hg hc hl)
       rw [Ha.o];go_roundg (ts.length - (j+1))
       case measure=>omega
       case rel=>exact ⟨j+1,rfl,by rw [ie.o],congrArg (fun (n:Nat)=>Value.int .i64 (n:Int)) Hv.o.symm,hjm,Hx.o,HA.o,by show OwnE _ _ _ _ _ _ _;rw [ic.o];exact Hu.o,Ht.o,yY⟩
      ·subst hk;have hN:=it.o;unfold NumOk at hN;rw [aE (show ¬ (4:Int)=2 by decide),aK rfl] at hN;have hd':d=(cnt:Int)+1:=hN.1;subst hd';obtain ⟨g1,g2⟩:=Hi.o;have g1':(opJ ts (j+1)).1=cnt+1:=g1;have g2':(opJ ts (j+1)).2=op:=g2;have Hv:=zW g1';have Hw:=zW g2';clear g1 g2 g1' g2' Hi hN x0;obtain ⟨x0,x1,x2,z0,z1,z2⟩:=bx3 HX.o;go_upto_region 21 with fail
       have hR:yK ((w2.setCell ⟨q,2,none⟩ (.int .i64 ((cnt:Int)+1))).heap[q]? =some (.cells #[.int .i64 4,.string t,.int .i64 ((cnt:Int)+1)] 31)):=by
        have:=W8 HX.o 2 (.int .i64 (((cnt:Int)+1)));show _=_;simpa using this
       have Hp:w.heap.size≤q:=(by have:=HL.o;omega);have hL:=zW (hb.o.setCell (p:=⟨q,2,none⟩) Hp (.int .i64 ((cnt:Int)+1)));have hS:q < (w2.setCell ⟨q,2,none⟩ (.int .i64 ((cnt:Int)+1))).heap.size:=(by simpa using ht);have hP:yK (∀ {e:TypeId} {m n:Nat} {v:Value} {xs:List Value},w2.ownsRow w.heap.size e m v n xs→v.ownBlock≠some q→(w2.setCell ⟨q,2,none⟩ (.int .i64 ((cnt:Int)+1))).ownsRow w.heap.size e m v n xs):=fun h HG=>Q7 h fun i hi=>X0g _ i (fun e=>HG (by rw [hi,e]));have hO:=zW (hP.o hp.o Hh.o);have hQ:=zW (hP.o hh.o hu.o);have hM:=zW (hP.o hs.o Hg.o);clear x0 x1 x2 z0 z1 z2 HX hb hp hh hs ht Hp hP Hh hu Hg;generalize w2.setCell ⟨q,2,none⟩ (.int .i64 ((cnt:Int)+1))=w3 at hR hL hO hQ hM hS ⊢;obtain ⟨w2,Hq⟩:∃ w2,yK (w2=w3):=⟨_,rfl⟩;rw [←Hq.o] at hR hL hO hQ hM hS ⊢;clear Hq;have HX:=hR;have hb:=hL;have hp:=hO;have hh:=hQ;have hs:=hM;have ht:=hS;clear hR hL hO hQ hM hS;have x0:=(bx3 HX.o).1;have x1:=(bx3 HX.o).2.1;have x2:=(bx3 HX.o).2.2.1;have Hb:yK ((w2.alloc (.cells #[.int .i64 4,.string t,.int .i64 ((cnt:Int)+1)] 31)).heap[q]? =some (.cells #[.int .i64 4,.string t,.int .i64 ((cnt:Int)+1)] 31)):=(bE w2 _ q ht).trans HX.o;have hX:=zW (aD hp.o (.cells #[.int .i64 4,.string t,.int .i64 ((cnt:Int)+1)] 31));have hD:=zW (aD hh.o (.cells #[.int .i64 4,.string t,.int .i64 ((cnt:Int)+1)] 31));have hH:=zW (aD hs.o (.cells #[.int .i64 4,.string t,.int .i64 ((cnt:Int)+1)] 31));have hB:=zW (hb.o.alloc hb.o.size (.cells #[.int .i64 4,.string t,.int .i64 ((cnt:Int)+1)] 31));have hZ:yK (RdT (w2.alloc (.cells #[.int .i64 4,.string t,.int .i64 ((cnt:Int)+1)] 31)) (.slice (some ⟨w2.heap.size,0,none⟩) 1 1) [⟨4,t,((cnt:Int)+1)⟩]):=Z3 tkC 3 Q5 w2 _ rfl (⟨4,t,((cnt:Int)+1)⟩:Tk) _;have HJ:=hb.o.size;have ho:q < (w2.alloc (.cells #[.int .i64 4,.string t,.int .i64 ((cnt:Int)+1)] 31)).heap.size:=yV;have CC3:=zW (CCA.o (((cnt:Int)+1)) (.slice Af f.length cf) (.slice (some ⟨w2.heap.size,0,none⟩) 1 1) (w2.alloc (.cells #[.int .i64 4,.string t,.int .i64 ((cnt:Int)+1)] 31)) (OwnE.rd Q5 hX.o) hZ.o);rw [Hk.o] at CC3;clear hp hh hs hb hX hZ Hk CCA HX ht;go_upto_region 22 with (go_at_call 8;refine (CC3.o).mono ?_;rintro e w5 ⟨v5,rfl,He,Hd⟩;have hC:=zW He;have ha:=zW Hd;clear He Hd)
       obtain ⟨Ag,cg,HI⟩:=Q0 hC.o;subst HI;have hw:=zW ((ha.o.block q ho).trans Hb.o);have hU:=zW (Q7 hD.o fun i hi=>ha.o.block i (hD.o.lt i hi).2);have Hf:=zW (Q7 hH.o fun i hi=>ha.o.block i (hH.o.lt i hi).2);have hu:yK (∀ i,(Value.slice Ag (Q4 (X0 (ts.take (j+1)))).length cg).ownBlock=some i→((.slice An op.length cn):Value).ownBlock≠some i):=fun i hi e=>by have h1:=(hC.o.lt i hi).1;have h2:=(hD.o.lt i e).2;omega
       have hG:=zW (hB.o.trans (ha.o.mono hB.o.size));have Hj:=zW (Y3 hC.o hB.o.size);have ii:q < w5.heap.size:=bC ho ha.o.size;clear Hb hD hH hB ha hC CC3 ho x0 x1 x2 HJ;have x0:=(bx3 hw.o).1;have x1:=(bx3 hw.o).2.1;have x2:=(bx3 hw.o).2.2.1;have u1:¬ (512:Int) < ((Q4 (X0 (ts.take (j+1)))).length:Int):=yY;have u2:¬ (1024:Int)≤(cs.length:Int):=yY;have Hr:=hG.o.size;go_upto_region 26 with fail
       have hJ:yK (OwnT 31 w5 w.heap.size (.slice An op.length cn) (opJ ts (j+1)).2.reverse):=(by show OwnE _ _ _ _ _ _ _;rw [Hw.o];exact hU.o);clear hu hw hU x0 x1 x2 Hr;have HK:=hG.o.size;have hK:=zW (aD hJ.o (.cells #[.int .i64 (ej:Nat)] 3));have hI:=zW (aD Hj.o (.cells #[.int .i64 (ej:Nat)] 3));have hE:=zW (aD Hf.o (.cells #[.int .i64 (ej:Nat)] 3));have hT:=zW (hG.o.alloc HK (.cells #[.int .i64 (ej:Nat)] 3));have Hz:=zW (O5 hK.o hE.o yX);have Hy:=zW (O5 hI.o hE.o yX);go_wp2_with (at_builtin;go_loud (refine V2 rfl (.tmp 97) (.tmp 99) 22 3 rfl underlying22 _ V7 1 8 C9 rfl yX K6 Q0i w.heap.size _ cs rfl (by exact hE.o) _ [(ej:Int)] rfl (by exact Z3 V7 1 K6 _ _ yW (ej:Int) _) yV yX hT.o.size ?_);intro v9 w9 hg hc hl;have Hu:=zW hg;have Ht:=zW (hc w.heap.size w yQ hT.o);have HA:=zW (Q7 hK.o fun i hi=>hl.block i (hK.o.lt i hi).2 (fun e=>Hz.o i hi e.symm));have Hx:=zW (Q7 hI.o fun i hi=>hl.block i (hI.o.lt i hi).2 (fun e=>Hy.o i hi e.symm));clear hg hc hl)
       rw [Ha.o];go_roundg (ts.length - (j+1))
       case measure=>omega
       case rel=>exact ⟨j+1,rfl,by rw [ie.o],congrArg (fun (n:Nat)=>Value.int .i64 (n:Int)) Hv.o.symm,hjm,Hx.o,HA.o,by show OwnE _ _ _ _ _ _ _;rw [ic.o];exact Hu.o,Ht.o,yY⟩
  ·obtain rfl:j=m:=yY;rcases je.o with ⟨hk,rfl,rfl⟩ | ⟨hk,_,hbad⟩
   rotate_left 1
   ·rw [hk] at HM;obtain ⟨An,cn,ia⟩:=Q0 HO.o;subst ia;rw [cT];obtain ⟨pe1,pe2⟩:=iL.o;rcases hbad with ⟨rfl,ih⟩ | ⟨HG,hbe⟩
    ·have he:K4 ts j=raw.size:=pe1;have HP:0 < (opJ ts j).2.length:=List.length_pos_iff.2 ih;have jr:(0:Int) < ((opJ ts j).2.length:Int):=yY;rw [he];clear pe1 pe2 ih he;go_wp2_with fail
     refine bO (Q5v rfl _ _ _) rfl ?_;rw [HM.o];exact ⟨_,_,_,_,rfl,HB.o⟩
    ·have ji:0 < bad.length:=List.length_pos_iff.2 HG;have iR:((K4 ts j:Nat):Int) < (raw.size:Int):=yY;have iF:((K4 ts j:Nat):Int)≤(raw.size:Int):=yY;have hV:=zW (fun W=>hbe (raw.extract (K4 ts j) raw.size) W (by rw [Q1e,pe2]) (by rw [cJ];omega));have hz:=HB.o.size;generalize K4 ts j=pj at *;clear pe1 pe2 ji;go_wp2_with (go_at_call 48;refine (hV.o _).mono ?_;rintro e w1 ⟨k0,t0,rfl,hF⟩;have Hs:=zW ((HB.o.trans (hF.mono hz)).alloc (aP hz hF.size) (.cells #[.int .i64 k0,.string t0,.int .i64 0] 31));clear hF)
     refine bO (Q5v rfl _ _ _) rfl ?_;rw [HM.o];exact ⟨_,_,_,_,rfl,Hs.o⟩
   rw [hk] at HM;have he:K4 ts ts.length=raw.size:=iL.o.1;have iQ:(opJ ts ts.length).2=[]:=by
    unfold opJ;rw [aW];exact Y8p _ H.o.num
   rw [he];have iY:yK (Q9r ts=csE ts++[((Q5k ts ts.length:Nat):Int)]):=(by show _=_;unfold Q9r Q5k;rw [aW]);rw [aW] at HF HC;rw [iQ] at HO;obtain ⟨An,cn,ia⟩:=Q0 HO.o;subst ia;obtain ⟨Af,cf,iC⟩:=Q0 HF.o;subst iC;obtain ⟨Ac,cc,iB⟩:=Q0 HC.o;subst iB;have iA:=Q5h ts;have hz:=HB.o.size;generalize Q5k ts ts.length=ej at *;generalize csE ts=cs at *;have jm:cs.length≤500:=yY;have hp:=zW (aD HF.o (.cells #[.int .i64 ej] 3));have hs:=zW (aD HC.o (.cells #[.int .i64 ej] 3));have hb:=zW (HB.o.alloc hz (.cells #[.int .i64 ej] 3));have iw:=zW (O5 HF.o HC.o yX);clear iQ he iA;go_wp2_with (at_builtin;refine V2 rfl (.tmp 111) (.tmp 113) 22 3 rfl underlying22 _ V7 1 8 C9 rfl yX K6 Q0i w.heap.size _ cs rfl (by exact hs.o) _ [(ej:Int)] rfl (by exact Z3 V7 1 K6 _ _ yW (ej:Int) _) yV yX hb.o.size ?_;intro v8 w8 Ho Hm HW;have hE:=zW Ho;have hT:=zW (Hm w.heap.size w yQ hb.o);have jb:=zW (Q7 hp.o fun k hk=>HW.block k (hp.o.lt k hk).2 (fun e=>iw.o k hk e.symm));clear Ho Hm HW)
   refine bO (Q5v rfl _ _ _) rfl ?_;rw [HM.o];refine ⟨_,_,rfl,jb.o,?_,hT.o⟩;rw [iY.o];exact hE.o
theorem X2k (fmt:Int) (hf:D1 fmt) (raw:fY) (ts:Els) (w:World) (h:RawOk fmt ts) (hr:raw.data.toList=Q2 ts) (hsz:raw.size≤65536):
 Calls prog 20 #[.int .i64 fmt,.string raw] w (U2t ts w):=
 Y2p fmt hf raw ts ts.length [] true w h yQ (by rw [aW,aX];exact hr) hsz (.inl ⟨rfl,rfl,rfl⟩)
theorem Z9o (s:fY) (w:World) (h:s.toList=[112]):Calls prog 51 #[.string s] w fun e w'=>e=.returned (.bool true)∧w=w':=by
 have h0:(s.toList==[112])=true:=(by rw [h];decide);clear h;go_enter func51,ntmps51
 go_wp2_with fail
 first | go_ret | skip
 exact ⟨rfl,rfl⟩
theorem Z9p (s:fY) (w:World) (h:s.toList=[104]):Calls prog 51 #[.string s] w fun e w'=>e=.returned (.bool true)∧w=w':=by
 have h0:(s.toList==[112])=false:=(by rw [h];decide);have h1:(s.toList==[104])=true:=(by rw [h];decide);clear h;go_enter func51,ntmps51
 go_wp2_with fail
 first | go_ret | skip
 exact ⟨rfl,rfl⟩
theorem Z9q (s:fY) (w:World) (h:s.toList=[108,105]):Calls prog 51 #[.string s] w fun e w'=>e=.returned (.bool true)∧w=w':=by
 have h0:(s.toList==[112])=false:=(by rw [h];decide);have h1:(s.toList==[104])=false:=(by rw [h];decide);have h2:(s.toList==[108,105])=true:=(by rw [h];decide);clear h;go_enter func51,ntmps51
 go_wp2_with fail
 first | go_ret | skip
 exact ⟨rfl,rfl⟩
theorem Z9r (s:fY) (w:World) (h:s.toList=[116,100]):Calls prog 51 #[.string s] w fun e w'=>e=.returned (.bool true)∧w=w':=by
 have h0:(s.toList==[112])=false:=(by rw [h];decide);have h1:(s.toList==[104])=false:=(by rw [h];decide);have h2:(s.toList==[108,105])=false:=(by rw [h];decide);have h3:(s.toList==[116,100])=true:=(by rw [h];decide);clear h;go_enter func51,ntmps51
 go_wp2_with fail
 first | go_ret | skip
 exact ⟨rfl,rfl⟩
theorem Z9s (s:fY) (w:World) (h:s.toList=[116,105,116,108,101]):Calls prog 51 #[.string s] w fun e w'=>e=.returned (.bool true)∧w=w':=by
 have h0:(s.toList==[112])=false:=(by rw [h];decide);have h1:(s.toList==[104])=false:=(by rw [h];decide);have h2:(s.toList==[108,105])=false:=(by rw [h];decide);have h3:(s.toList==[116,100])=false:=(by rw [h];decide);have h4:(s.toList==[116,105,116,108,101])=true:=(by rw [h];decide);clear h;go_enter func51,ntmps51
 go_wp2_with fail
 first | go_ret | skip
 exact ⟨rfl,rfl⟩
theorem X9i (s:fY) (w:World) (h:U4 s.data.toList=true):Calls prog 51 #[.string s] w fun e w'=>e=.returned (.bool true)∧w=w':=by
 rw [←Y7] at h;unfold U4 wP wH wLi wTd X4y at h;simp only [fL,cM] at h;rcases h with (((h | h) | h) | h) | h
 ·exact Z9o s w h
 ·exact Z9p s w h
 ·exact Z9q s w h
 ·exact Z9r s w h
 ·exact Z9s s w h
theorem Z9w (n:Nat) (h1:1≤n) (h2:n≤8) (w:World):Calls prog 173 #[.int .i64 (n:Nat)] w fun e w'=>e=.returned (.string (ofL (Lib.decDigits n)))∧Below w.heap.size w w':=by
 have HB:=zW fun o=>(aB w.heap.size w).alloc yQ o;have g1:=T7 w 49;have g2:=T7 w 50;have g3:=T7 w 51;have g4:=T7 w 52;have g5:=T7 w 53;have g6:=T7 w 54;have g7:=T7 w 55;have g8:=T7 w 56;simp only [UInt8.reduceToNat,Int.cast_ofNat_Int] at g1 g2 g3 g4 g5 g6 g7 g8;obtain rfl | rfl | rfl | rfl | rfl | rfl | rfl | rfl:n=1∨n=2∨n=3∨n=4∨n=5∨n=6∨n=7∨n=8:=yY
 all_goals (
  clear h1 h2;go_enter func173,ntmps173
  go_wp2_with fail
  refine wp_loop_rounds 1 ?_;rw [rounds_succ];go_wp2_with fail
  first | go_ret | skip
  refine ⟨?_,HB.o _⟩;rw [Lib.decDigits_one yX];rfl)
theorem X9c (n:Nat) (h1:1≤n) (h2:n≤8) (w:World):Calls prog 134 #[.int .i64 (n:Nat)] w fun e w'=>e=.returned (.string (ofL (Lib.decDigits n)))∧Below w.heap.size w w':=by
 have CD:=zW (fun w=>Z9w n h1 h2 w);go_enter func134,ntmps134
 go_wp2_with (go_at_call 173;refine (CD.o _).mono ?_;rintro e w1 ⟨rfl,ha⟩;have HB:=zW ha;clear ha)
 first | go_ret | skip
 exact ⟨rfl,HB.o⟩
theorem V5a (s:fY) (r:List UInt8) (w:World) (hs:s.data.toList=10::r):Calls prog 89 #[.string s] w (El7 0 ⟨#[]⟩ 0 w):=by
 have hb:0 < s.size:=(by rw [aC,hs];simp);have ha:=at0 s 10 _ hs hb;have n10:((s[0].toNat:Int)==10)=true:=(by rw [ha];rfl);have HA:=zW ((aB w.heap.size w).alloc yQ (.cells #[.int .i64 0,.string ⟨#[]⟩,.int .i64 0] 31));clear hs ha;go_enter func89,ntmps89
 go_wp2_with fail
 refine bO (K9 rfl _ _ w.heap.size 0 0 ⟨#[]⟩ _ rfl rfl yU yU yU) rfl ?_;exact ⟨rfl,HA.o⟩
theorem Z3g (s:fY) (r:List UInt8) (w:World) (hs:s.data.toList=34::r) (hr:r.head? ≠some 34):Calls prog 90 #[.string s] w (El7 0 ⟨#[]⟩ 0 w):=by
 have hb:0 < s.size:=(by rw [aC,hs];simp);have ha:=at0 s 34 _ hs hb;have n34:((s[0].toNat:Int)==34)=true:=(by rw [ha];rfl);have CB:=zW (fun W=>G4 s (⟨#[34,34]⟩:fY) false (by
  rw [hs];cases r with
  | nil=>rfl
  | cons c r=>
    have:¬ c=34:=fun e=>hr (by rw [e];rfl);simp [Lib.hasPrefix,List.isPrefixOf];exact fun e=>this e.symm) W (by show (2:Nat)≤_;decide))
 have HA:=zW ((aB w.heap.size w).alloc yQ (.cells #[.int .i64 0,.string ⟨#[]⟩,.int .i64 0] 31));clear hs ha hr;go_enter func90,ntmps90
 go_wp2_with (go_at_call 136;refine (CB.o _).mono ?_;rintro e w' ⟨rfl,rfl⟩)
 refine bO (K9 rfl _ _ w.heap.size 0 0 ⟨#[]⟩ _ rfl rfl yU yU yU) rfl ?_;exact ⟨rfl,HA.o⟩
theorem V3x (s:fY) (r:List UInt8) (w:World) (hs:s.data.toList=60::r) (CT:∀ W,Calls prog 135 #[.string s] W (El7 0 ⟨#[]⟩ 0 W)):Calls prog 88 #[.string s] w (El7 0 ⟨#[]⟩ 0 w):=by
 have hc:0 < s.size:=(by rw [aC,hs];simp);have ha:=at0 s 60 _ hs hc;have n60:((s[0].toNat:Int)==60)=true:=(by rw [ha];rfl);have CTT:=zW CT;have HA:=zW ((aB w.heap.size w).alloc yQ (.cells #[.int .i64 0,.string ⟨#[]⟩,.int .i64 0] 31));clear hs ha CT;go_enter func88,ntmps88
 go_wp2_with (go_at_call 135;refine (CTT.o _).mono ?_;rintro e w1 ⟨rfl,hb⟩;obtain ⟨z0,z1,z2,y0,y1,y2⟩:=T3 hb;have HB:=zW (HA.o.trans (hb.mono HA.o.size));have hd:w.heap.size < w1.heap.size:=bC yW hb.size;clear hb)
 refine bO (K9 rfl _ _ w.heap.size 0 0 ⟨#[]⟩ _ rfl rfl yU yU yU) rfl ?_;refine ⟨rfl,?_⟩;exact (V5 HB.o _ _ _).alloc yV _
theorem Y2d (s t:fY) (r:List UInt8) (k:Int) (n:Nat) (w:World) (hs:s.data.toList=60::r) (CT:∀ W,Calls prog 135 #[.string s] W (El7 k t n W)) (hn:0 < n) (hb:U4 (Z0 t.data.toList)=true) (hts:t.size≤1000000):
 Calls prog 88 #[.string s] w (El7 0 ⟨#[]⟩ 0 w):=by
 have hc:0 < s.size:=(by rw [aC,hs];simp);have ha:=at0 s 60 _ hs hc;have n60:((s[0].toNat:Int)==60)=true:=(by rw [ha];rfl);have CTT:=zW CT;have CN:=zW (fun W=>B8 t W hts);rw [show (⟨(M8 t.data.toList).toArray⟩:fY)=ofL (Z0 t.data.toList) from rfl] at CN;have CB:=zW (fun W=>X9i (ofL (Z0 t.data.toList)) W (by simpa [ofL] using hb));have he:((n:Int)==0)=false:=(by rw [aI];omega);have HA:=zW ((aB w.heap.size w).alloc yQ (.cells #[.int .i64 0,.string ⟨#[]⟩,.int .i64 0] 31));clear hs ha CT hb;go_enter func88,ntmps88
 go_wp2_with (first
  | (go_at_call 135;refine (CTT.o _).mono ?_;rintro e w1 ⟨rfl,hb⟩;obtain ⟨z0,z1,z2,y0,y1,y2⟩:=T3 hb;have HB:=zW (HA.o.trans (hb.mono HA.o.size));have hd:w.heap.size < w1.heap.size:=bC yW hb.size;clear hb)
  | (go_at_call 36;refine (CN.o _).mono ?_;rintro e w' ⟨rfl,rfl⟩)
  | (go_at_call 51;refine (CB.o _).mono ?_;rintro e w' ⟨rfl,rfl⟩))
 refine bO (K9 rfl _ _ w.heap.size 0 0 ⟨#[]⟩ _ rfl rfl yU yU yU) rfl ?_;refine ⟨rfl,?_⟩;exact (V5 HB.o _ _ _).alloc yV _
def Q0a:fY:=⟨#[33,45,45,32,60,112]⟩
theorem U2y:(((Q0a[Q0a.size - 1]'yX).toNat:Int)==47)=false:=yX
theorem V1s:Q0a.size=6∧∀ i,∀ h:i < Q0a.size,(i < 4→32≤Q0a[i].toNat∧Q0a[i].toNat≤126∧Q0a[i].toNat≠60∧Q0a[i].toNat≠62∧Q0a[i].toNat≠123∧Q0a[i].toNat≠125)∧(i=4→Q0a[i].toNat=60):=yX
theorem Z9u (w:World):Calls prog 140 #[.string Q0a] w fun e w'=>e=.returned (.bool false)∧w=w':=by
 obtain ⟨R,hc⟩:∃ R:Ending→World→Prop,yK (R=fun e w'=>e=.returned (.bool false)∧w=w'):=⟨_,rfl⟩;rw [←hc.o];obtain ⟨hg,ha⟩:=V1s;have hb:=zW ha;clear ha;generalize Q0a=s at *;obtain ⟨wo,hd⟩:∃ wo,yK (wo=w):=⟨w,rfl⟩;have t1:¬ (64:Int) < (s.size:Int):=yY;go_enter func140,ntmps140
 go_wp2_with fail
 go_loopg [3] 5 (fun gk iv wr=>∃ (i:Nat),iv=.int .i64 (i:Nat)∧i≤4∧yK (wr=wo)∧5 - i≤gk)
 case atStart=>exact ⟨0,rfl,aO _,hd.o.symm,yQ⟩
 case round=>
  obtain ⟨i,rfl,hi,HW,hgk⟩:=hrel;have he:i < s.size:=yY;have hf:(i:Int) < (s.size:Int):=yY;obtain ⟨h1,h2⟩:=hb.o i he;by_cases hlt:i < 4
  ·obtain ⟨r1,r2,r3,r4,r5,r6⟩:=h1 hlt;have q1:¬ ((s[i].toNat:Int) < 32):=yY;have q2:¬ ((126:Int) < (s[i].toNat:Int)):=yY;have b1:((s[i].toNat:Int)==60)=false:=(by rw [aI];omega);have b2:((s[i].toNat:Int)==62)=false:=(by rw [aI];omega);have b3:((s[i].toNat:Int)==123)=false:=(by rw [aI];omega);have b4:((s[i].toNat:Int)==125)=false:=(by rw [aI];omega);clear h1 h2 r3 r4 r5 r6;go_wp2_with fail
   go_roundg (5 - (i+1))
   case measure=>omega
   case rel=>exact ⟨i+1,rfl,yY,HW.o,yY⟩
  ·have h3:=h2 yY;have q1:¬ ((s[i].toNat:Int) < 32):=yY;have q2:¬ ((126:Int) < (s[i].toNat:Int)):=yY;have b1:((s[i].toNat:Int)==60)=true:=(by rw [cM];omega);clear h1 h2 h3;go_wp2_with fail
   first | go_ret | skip
   rw [hc.o];exact ⟨rfl,(HW.o.trans hd.o).symm⟩
theorem V5y (s:fY) (r:List UInt8) (w:World) (hs:s.data.toList=60::Q0a.data.toList++62::r) (hsz:s.size≤1000000):
 Calls prog 135 #[.string s] w (El7 0 ⟨#[]⟩ 0 w):=by
 have hc:s.size=8+r.length:=(by rw [aC,hs];simp [Q0a];omega);have ha:s.extract 1 7=Q0a:=E7 _ _ _ _ (Q1s (p:=[60]) (q:=62::r) (by rw [hs];simp) rfl rfl);have CB:=zW (fun W=>G4 Q0a (⟨#[47]⟩:fY) false yX W yX);have CC:=zW Z9u;have hh:∀ h:Q0a.size - 1 < Q0a.size,(((Q0a[Q0a.size - 1]'h).toNat:Int)==47)=false:=fun _=>U2y;have hd:(0:Int) < (Q0a.size:Int):=yX;have CF:=zW (fun W=>Q4f s (⟨#[62]⟩:fY) 1 6 W (by rw [hs];show Lib.index (Q0a.data.toList++62::r) [62]=_;rw [Y4e _ _ yX];rfl) yX hsz yX);have HA:=zW ((aB w.heap.size w).alloc yQ (.cells #[.int .i64 0,.string ⟨#[]⟩,.int .i64 0] 31));have h7:(7:Nat)≤s.size:=yY;obtain ⟨p,hp⟩:∃ p,p=1+6:=⟨_,rfl⟩;rw [←hp] at CF;rw [show (7:Nat)=p from hp.symm] at ha h7;have he:1≤p:=yY;have hf:p≤1000002:=yY;have hg:Q0a.size≤1000000:=yX;clear hs hp hc;generalize Q0a=t at *;have hb:=hh yY;clear hh;go_enter func135,ntmps135
 go_wp2_with (first
  | (go_at_call 174;refine (CF.o _).mono ?_;rintro e w' ⟨rfl,rfl⟩)
  | (go_at_call 136;refine (CB.o _).mono ?_;rintro e w' ⟨rfl,rfl⟩)
  | (go_at_call 140;refine (CC.o _).mono ?_;rintro e w' ⟨rfl,rfl⟩))
 refine bO (K9 rfl _ _ w.heap.size 0 0 ⟨#[]⟩ _ rfl rfl yU yU yU) rfl ?_;exact ⟨rfl,HA.o⟩
theorem X6t {fmt:Int} {bad:List UInt8} (h:∀ (s:fY) (W:World),s.data.toList=bad→s.size≤1000000→Calls prog 48 #[.int .i64 fmt,.string s] W (El7 0 ⟨#[]⟩ 0 W)):Q6k fmt bad:=fun s W h1 h2=>(h s W h1 h2).mono fun _ _ ⟨e,hb⟩=>⟨0,⟨#[]⟩,e,hb⟩
theorem X6u (r:List UInt8):Q6k 2 (10::r):=X6t fun s W h _=>Z4v s _ _ _ W fun V=>V5a s r V h
theorem X3i (r:List UInt8) (hr:r.head? ≠some 34):Q6k 3 (34::r):=X6t fun s W h _=>Z4w s _ _ _ W fun V=>Z3g s r V h hr
theorem Z4i (r:List UInt8):Q6k 1 (60::Q0a.data.toList++62::r):=X6t fun s W h hz=>X5y s _ _ _ W fun V=>V3x s _ V h fun U=>V5y s r U h hz
theorem Z4j (t r:List UInt8) (hc:N9 t=true) (hb:U4 (Z0 t)=true):Q6k 1 (60::t++62::r):=X6t fun s W h hz=>by
 have e:(ofL t).data.toList=t:=(by simp [ofL]);have h':s.data.toList=60::(ofL t).data.toList++62::r:=(by rw [h,e]);have hl:(ofL t).size≤s.size:=(by rw [aC,aC s,h',e];simp;omega);exact X5y s _ _ _ W fun V=>Y2d s (ofL t) _ 2 _ V h' (fun U=>X2t s (ofL t) r U h' hz (by rw [e];exact hc)) yY (by rw [e];exact hb) yY
theorem Z4h (t r:List UInt8) (hc:U3 t=true) (hb:U4 t=true):Q6k 1 (60::47::t++62::r):=X6t fun s W h hz=>by
 have e:(ofL t).data.toList=t:=(by simp [ofL]);have h':s.data.toList=60::47::(ofL t).data.toList++62::r:=(by rw [h,e]);have hl:(ofL t).size≤s.size:=(by rw [aC,aC s,h',e];simp;omega);have ha:Z0 t=t:=X9v t (I4 t hc 32 yW);exact X5y s _ _ _ W fun V=>Y2d s (ofL t) _ 3 _ V h' (fun U=>Z0m s (ofL t) r U h' hz (by rw [e];exact hc)) yY (by rw [e,ha];exact hb) yY
def Q0e (fmt:Int) (s:List UInt8):Prop:=∃ (ts:Els) (m:Nat) (bad:List UInt8) (ok:Bool),RawOk fmt ts∧m≤ts.length∧s=Q2 (ts.take m)++bad∧
 ((ok=true∧m=ts.length∧bad=[])∨(ok=false∧(∀ e∈ts,e.2≠none)∧(bad=[]∧(opJ ts m).2≠[]∨bad≠[]∧Q6k fmt bad)))
theorem V0i (fmt:Int) (hf:D1 fmt) (s:fY) (h:Q0e fmt s.data.toList) (hsz:s.size≤65536) (w:World):
 Calls prog 20 #[.int .i64 fmt,.string s] w (fun e w'=>∃ a b c d,e=.returned (.tuple #[a,b,c,d])∧Below w.heap.size w w'):=by
 obtain ⟨ts,m,bad,ok,h1,h2,h3,h4⟩:=h;refine (Y2p fmt hf s ts m bad ok w h1 h2 h3 hsz h4).mono fun e w' hd=>?_;unfold V0y at hd;split at hd
 ·obtain ⟨v,vc,he,_,_,hb⟩:=hd;exact ⟨_,_,_,_,he,hb⟩
 ·exact hd
def X3k (l:List UInt8):Els:=l.map fun c=>([c],some (chI c))
theorem X7b:∀ l:List UInt8,Q2 (X3k l)=l
 | []=>rfl
 | c::l=>by
   show [c]++Q2 (X3k l)=_;rw [X7b l];rfl
theorem Y6l:∀ (l:List UInt8) (c:Nat),NumOk (X0 (X3k l)) c []
 | [],_=>rfl
 | b::l,c=>by
   show NumOk (chI b::X0 (X3k l)) c [];unfold NumOk;have e:(chI b).k=1:=rfl;rw [e,aE (show ¬ (1:Int)=2 by decide),aE (show ¬ (1:Int)=4 by decide),aE (show ¬ (1:Int)=3 by decide)];exact Y6l l c
theorem Y1i (l:List UInt8):∀ e∈X3k l,e.2≠none:=fun e he=>by
 obtain ⟨c,_,rfl⟩:=cF.1 he;simp
theorem Z4n (fmt:Int) (l:List UInt8) (h:∀ c∈l,ElOk fmt [c] (some (chI c))) (hl:l.length≤500):RawOk fmt (X3k l) where
 els:=fun e he=>by
  obtain ⟨c,hc,rfl⟩:=cF.1 he;exact h c hc
 cont:=Q2a _ (Y1i l)
 num:=Y6l l 0
 len:=by
  have:(X0 (X3k l)).length≤(X3k l).length:=List.length_filterMap_le _ _;have e:(X3k l).length=l.length:=bA _;omega
theorem X9q (fmt:Int) (l:List UInt8) (h:∀ c∈l,ElOk fmt [c] (some (chI c))) (hl:l.length≤500):Q0e fmt l:=
 ⟨X3k l,(X3k l).length,[],true,Z4n fmt l h hl,yQ,by rw [aW,X7b,aX],.inl ⟨rfl,rfl,rfl⟩⟩
theorem X2q (fmt:Int) (l bad:List UInt8) (h:∀ c∈l,ElOk fmt [c] (some (chI c))) (hl:l.length≤500) (hn:bad≠[]) (hb:Q6k fmt bad):Q0e fmt (l++bad):=
 ⟨X3k l,(X3k l).length,bad,false,Z4n fmt l h hl,yQ,by rw [aW,X7b],.inr ⟨rfl,Y1i l,.inr ⟨hn,hb⟩⟩⟩
theorem Q1u (fmt:Int) (bad:List UInt8) (hn:bad≠[]) (hb:Q6k fmt bad):Q0e fmt bad:=X2q fmt [] bad (fun c hc=>by simp at hc) yW hn hb
/-! ### Markup -/
def Y0r:List UInt8:=[104,116,109,108]
def V3d:Els:=[(60::Y0r++[62],some ⟨2,ofL Y0r,1⟩),(60::47::Y0r++[62],some ⟨3,ofL Y0r,1⟩)]
theorem V8d:RawOk 1 V3d where
 els:=fun e he=>by
  rcases (show e=_∨e=_ by simpa [V3d] using he) with rfl | rfl
  ·exact ElOk.opn Y0r 1 yX yX
  ·exact ElOk.cls Y0r 1 yX yX
 cont:=Q2a _ fun e he=>by rcases (show e=_∨e=_ by simpa [V3d] using he) with rfl | rfl<;>simp
 num:=by
  show NumOk [⟨2,ofL Y0r,1⟩,⟨3,ofL Y0r,1⟩] 0 [];unfold NumOk;rw [aK rfl];refine ⟨rfl,?_⟩;unfold NumOk;rw [aE (show ¬ (3:Int)=2 by decide),aE (show ¬ (3:Int)=4 by decide),aK rfl];exact ⟨_,[],rfl,yX,rfl,rfl⟩
 len:=yX
theorem V5n (bad:List UInt8) (h:bad=[]∨bad≠[]∧Q6k 1 bad):Q0e 1 (60::Y0r++62::bad):=by
 refine ⟨V3d,1,bad,false,V8d,yX,rfl,.inr ⟨rfl,fun e he=>by rcases (show e=_∨e=_ by simpa [V3d] using he) with rfl | rfl<;>simp,?_⟩⟩;rcases h with rfl | h
 ·exact .inl ⟨rfl,yX⟩
 ·exact .inr h
def TlM (tl:List UInt8):Prop:=Q0e 1 tl∧∀ t,N9 t=true→U4 (Z0 t)=true→Q0e 1 (tl++(60::t++[62]))
theorem U2l (t x:List UInt8) (h:U3 t=true) (hb:U4 t=true):TlM (60::47::t++62::x):=
 ⟨Q1u 1 _ yW (Z4h t x h hb),fun u _ _=>by
   have e:60::47::t++62::x++(60::u++[62])=60::47::t++62::(x++(60::u++[62])):=yW;rw [e];exact Q1u 1 _ yW (Z4h t _ h hb)⟩
def SkM (st:List Un×List UInt8):Prop:=(∀ u∈st.1,Q0e 1 u.sk)∧TlM st.2
theorem U2g (k:Nat) (h:k < 3):SkM ((X0d.getD k []).foldl G1 ([],[])):=by
 refine ⟨fun u hu=>?_,?_⟩
 ·rcases (show k=0∨k=1∨k=2 by omega) with rfl | rfl | rfl<;>simp [X0d,G1] at hu
 ·rcases (show k=0∨k=1∨k=2 by omega) with rfl | rfl | rfl
  ·exact ⟨X9q 1 [] (fun c hc=>by simp at hc) yW,fun t h1 h2=>Q1u 1 _ yW (Z4j t [] h1 h2)⟩
  ·refine ⟨V5n [] (.inl rfl),fun t h1 h2=>?_⟩;show Q0e 1 (60::Y0r++62::(60::t++[62]));exact V5n _ (.inr ⟨by simp,Z4j t [] h1 h2⟩)
  ·refine ⟨Q1u 1 (60::Q0a.data.toList++62::[32,45,45,62,120]) yW (Z4i _),fun t h1 h2=>?_⟩;show Q0e 1 (60::Q0a.data.toList++62::([32,45,45,62,120]++(60::t++[62])));exact Q1u 1 _ yW (Z4i _)
theorem U2f (ms:List MK) (t key:List UInt8) (ts:Els) (k:Nat) (hk:k < 3) (hc:N9 t=true) (hb:U4 (Z0 t)=true) (h:SkM (ms.foldl G1 ([],[]))):SkM ((ms++(.blk t key ts::Q7y.getD k [])).foldl G1 ([],[])):=by
 rw [dY,bQ];generalize ms.foldl G1 ([],[])=st at *;have hn:=(J0 t hc).2.2.2.1;have h1:∀ u∈st.1++[(⟨st.2++(60::t++[62]),key,ts⟩:Un)],Q0e 1 u.sk:=fun u hu=>by
  rcases aS.1 hu with hu | hu
  ·exact h.1 u hu
  ·rw [aJ.1 hu];exact h.2.2 t hc hb
 have h2:∀ x,TlM (G9 t++x):=fun x=>by
  have e:G9 t++x=60::47::Z0 t++62::x:=(by simp [G9]);rw [e];exact U2l _ x hn hb
 rcases (show k=0∨k=1∨k=2 by omega) with rfl | rfl | rfl
 ·exact ⟨h1,by have:=h2 [];rwa [aX] at this⟩
 ·exact ⟨h1,h2 _⟩
 ·exact ⟨h1,h2 _⟩
theorem Z5w (L:List Int):∀ (i k:Nat) (ms:List MK) (N:Nat),SkM (ms.foldl G1 ([],[]))→SkM ((Q9x L i k ms N).1.foldl G1 ([],[]))
 | 0,_,_,_,h=>h
 | i+1,k,ms,N,h=>by
   have b1:=X5 L (J9 1 L N).2 3 yX;have b2:=X5 L ((J9 1 L N).2+1) 2 yX;have b3:=X5 L ((J9 1 L N).2+2) 3 yX;obtain ⟨c1,c2,_⟩:=X8m (Q8 L (J9 1 L N).2 3).toNat yY (Q8 L ((J9 1 L N).2+1) 2).toNat yY;rw [Q9x];exact Z5w L i (k+1) _ _ (U2f ms _ _ _ _ yY c1 c2 h)
/-! ### Resources -/
def SkR (st:List Un×List UInt8):Prop:=(∀ u∈st.1,Q0e 2 u.sk)∧Q0e 2 st.2∧∀ i,i < 9→Q0e 2 (st.2++((107::I9 (i+1))++[61]))
theorem V9v (k:Nat) (h:k < 3):SkR ((Q9f.getD k []).foldl O6 ([],[])):=by
 refine ⟨fun u hu=>?_,?_⟩
 ·rcases (show k=0∨k=1∨k=2 by omega) with rfl | rfl | rfl<;>simp [Q9f,O6] at hu
 ·rcases (show k=0∨k=1∨k=2 by omega) with rfl | rfl | rfl
  ·refine ⟨X9q 2 [] (fun c hc=>by simp at hc) yW,fun i hi=>X9q 2 (([]:List UInt8)++((107::I9 (i+1))++[61])) (fun c hc=>ElOk.ch2 c ?_) (by simp [I9])⟩;have:∀ i,i < 9→∀ c∈([]:List UInt8)++((107::I9 (i+1))++[61]),c≠10∧c≠92∧c≠123:=yX;exact this i hi c hc
  ·have hc:∀ c∈([35,32,99]:List UInt8),ElOk 2 [c] (some (chI c)):=fun c hc=>ElOk.ch2 c ((by decide:∀ c∈([35,32,99]:List UInt8),c≠10∧c≠92∧c≠123) c hc);exact ⟨X2q 2 [35,32,99] [10] hc yX yW (X6u []),fun i _=>X2q 2 [35,32,99] (10::((107::I9 (i+1))++[61])) hc yX yW (X6u _)⟩
  ·exact ⟨Q1u 2 [10,32,10] yW (X6u _),fun i _=>by
    have e:((Q9f.getD 2 []).foldl O6 ([],[])).2++((107::I9 (i+1))++[61])=10::([32,10]++((107::I9 (i+1))++[61])):=(by rw [show ((Q9f.getD 2 []).foldl O6 ([],[])).2=[10,32,10] from rfl];rfl);rw [e];exact Q1u 2 _ yW (X6u _)⟩
theorem Z6l (L:List Int):∀ (i:Nat) (ls:List RL) (N:Nat),i≤9→SkR (ls.foldl O6 ([],[]))→SkR ((X4m L i ls N).1.foldl O6 ([],[]))
 | 0,_,_,_,h=>h
 | i+1,ls,N,hi,h=>by
   have b1:=X5 L (J9 2 L N).2 3 yX;rw [X4m];refine Z6l L i _ _ yY ?_;rw [dY,bQ];generalize ls.foldl O6 ([],[])=st at *;have h1:∀ u∈st.1++[(⟨st.2++((107::I9 (i+1))++[61]),107::I9 (i+1),(J9 2 L N).1⟩:Un)],Q0e 2 u.sk:=fun u hu=>by
    rcases aS.1 hu with hu | hu
    ·exact h.1 u hu
    ·rw [aJ.1 hu];exact h.2.2 i yY
   have h2:∀ x,Q0e 2 (10::x):=fun x=>Q1u 2 _ yW (X6u _);rcases (show (Q8 L (J9 2 L N).2 3).toNat=0∨(Q8 L (J9 2 L N).2 3).toNat=1∨(Q8 L (J9 2 L N).2 3).toNat=2 by omega) with e | e | e<;>rw [e]<;>exact ⟨h1,h2 _,fun _ _=>h2 _⟩
/-! ### Tables -/
def SkS (h:Nat) (st:List Un×List UInt8):Prop:=(∀ u∈st.1,Q0e 3 u.sk)∧Q0e 3 st.2∧Q0e 3 (st.2++(10::(G0 (rcA.getD h [])++[34])))
theorem V9w (h:Nat) (hh:h < 3):SkS h ([],I6 (hdA.getD h []) (hdB.getD h [])):=by
 refine ⟨fun u hu=>by simp at hu,?_⟩;have hc:∀ l:List UInt8,(∀ c∈l,c≠34∧c≠123)→∀ c∈l,ElOk 3 [c] (some (chI c)):=fun l hl c hc=>ElOk.ch3 c (hl c hc);rcases (show h=0∨h=1∨h=2 by omega) with rfl | rfl | rfl
 ·exact ⟨X9q 3 _ (hc _ yX) yX,X2q 3 [116,101,120,116,10] [34] (hc _ yX) yX yW (X3i [] yX)⟩
 ·exact ⟨X9q 3 _ (hc _ yX) yX,X2q 3 [105,100,44,116,101,120,116,10,55,44] [34] (hc _ yX) yX yW (X3i [] yX)⟩
 ·exact ⟨Q1u 3 _ yX (X3i _ yX),Q1u 3 _ yX (X3i _ yX)⟩
theorem Z6s (L:List Int) (h:Nat) (hh:h < 3) (a b:List Fl):∀ (i k:Nat) (rs:List Rc) (N:Nat),SkS h (rs.foldl O7 ([],I6 a b))→SkS h ((X0h L h i k rs N).1.foldl O7 ([],I6 a b))
 | 0,_,_,_,hr=>hr
 | i+1,k,rs,N,hr=>by
   rw [X0h];refine Z6s L h hh a b i (k+1) _ _ ?_;rw [dY,bQ,List.foldl_nil];generalize rs.foldl O7 ([],I6 a b)=st at *;refine ⟨fun u hu=>?_,?_⟩
   ·rcases aS.1 hu with hu | hu
    ·exact hr.1 u hu
    ·rw [aJ.1 hu];exact hr.2.2
   ·show Q0e 3 (34::T4 (rcB.getD h []))∧Q0e 3 (34::(T4 (rcB.getD h [])++(10::(G0 (rcA.getD h [])++[34]))));rcases (show h=0∨h=1∨h=2 by omega) with rfl | rfl | rfl<;>exact ⟨Q1u 3 _ yW (X3i _ yX),Q1u 3 _ yW (X3i _ yX)⟩
theorem V3s (L:List Int) (N n:Nat) (hn:n≤3) (fmt:Int) (hf:D1 fmt):(∀ u∈(F8 L N n fmt).un.1,Q0e fmt u.sk)∧Q0e fmt (F8 L N n fmt).un.2:=by
 have hb:=X5 L N 3 yX;have hc:=X5 L (N+1) ((n:Int)+1) yY;have hh:(Q8 L N 3).toNat < 3:=yY;unfold F8;generalize (Q8 L N 3).toNat=h at hh;obtain ⟨m,hm⟩:∃ m,(Q8 L (N+1) ((n:Int)+1)).toNat=m:=⟨_,rfl⟩;have ha:m≤9:=yY;rw [hm];rcases hf with rfl | rfl | rfl
 ·simp only [aK];have:=Z5w L m 0 (X0d.getD h []) (N+2) (U2g h hh);exact ⟨this.1,this.2.1⟩
 ·rw [aE yX,aK rfl];have:=Z6l L m (Q9f.getD h []) (N+2) ha (V9v h hh);exact ⟨this.1,this.2.1⟩
 ·rw [aE yX,aE yX];have:=Z6s L h hh (hdA.getD h []) (hdB.getD h []) m 0 [] (N+2) (V9w h hh);exact ⟨this.1,this.2.1⟩
theorem V5u:∀ (us:List Un) (i:Nat),(V0 (ksU us i)).Pairwise fun a b=>a.pt≤b.pt
 | [],_=>List.Pairwise.nil
 | u::us,i=>by
   rw [ksU,Q4p,List.pairwise_append];have hp:∀ p∈X8u (2 * i+1) (Q4 (X0 u.ts)),p.pt=2 * i+1:=fun p hp=>by
    obtain ⟨r,_,rfl⟩:=cF.1 hp;rfl
   refine ⟨?_,V5u us (i+1),fun a ha b hb=>?_⟩
   ·refine fG.2 fun a b ha hb _=>?_;rw [hp _ (aL ha),hp _ (aL hb)];exact yQ
   ·rw [hp a ha];obtain ⟨j,_,_,_,_,rfl⟩:=Y4s us (i+1) b hb;show 2 * i+1≤2 * (i+1+j)+1;omega
theorem V1r:∀ (us:List Un) (i:Nat),(∀ u∈us,(E5 [G8] (Q4 (X0 u.ts))).length≤16)→(V0 (ksU us i)).length≤16 * us.length
 | [],_,_=>yQ
 | u::us,i,h=>by
   have ih:=V1r us (i+1) fun v hv=>h v (by simp [hv]);have h1:=h u yW;rw [ksU,Q4p,aA,aG];have:(X8u (2 * i+1) (Q4 (X0 u.ts))).length=(E5 [G8] (Q4 (X0 u.ts))).length:=(by unfold X8u;rw [bA]);simp only
   omega
theorem Y9a (fmt:Int) (l:List Pc) (T:List (List Tk)) (tl:List UInt8):∀ (us:List Un) (j i:Nat),i≤us.length→∃ s,(s=tl∨∃ u∈us,s=u.sk)∧(P9 us tl)[2 * i]? =some ⟨false,ofL [],ofL s⟩∧(P9 (R6 fmt l T j us) tl)[2 * i]? =some ⟨false,ofL [],ofL s⟩
 | [],j,i,h=>by
   have:i=0:=(by simpa using h);subst this;exact ⟨tl,.inl rfl,rfl,rfl⟩
 | u::us,j,0,_=>⟨u.sk,.inr ⟨u,by simp,rfl⟩,rfl,rfl⟩
 | u::us,j,i+1,h=>by
   obtain ⟨s,h1,h2,h3⟩:=Y9a fmt l T tl us (j+1) i (by simpa using h);refine ⟨s,?_,?_,?_⟩
   ·rcases h1 with h1 | ⟨v,hv,e⟩
    ·exact .inl h1
    ·exact .inr ⟨v,by simp [hv],e⟩
   ·rw [P9,show 2 * (i+1)=2 * i+1+1 by omega,bU,bU,h2]
   ·rw [R6,P9,show 2 * (i+1)=2 * i+1+1 by omega,bU,bU,h3]
theorem Y6i:∀ f:List Tk,(∀ x∈f,x.t.size≤1024)→X2 f≤X3 f+1024 * ntx f
 | [],_=>aO _
 | x::f,h=>by
   have ih:=Y6i f fun y hy=>h y (by simp [hy]);have h1:=h x yW;have e:X2 (x::f)=x.t.size+X2 f:=(by simp [X2]);have e2:ntx (x::f)=ntx [x]+ntx f:=Q0v [x] f;rw [e,e2,X3];by_cases hk:x.k=1
   ·have:wdI x=x.t.size:=(by unfold wdI;rw [aK hk]);omega
   ·have:ntx [x]=1:=(by unfold ntx;simp [hk]);omega
def U4h (fmt:Int) (t:List Tk):Prop:=ValF t∧(fmt=1→Q5e t)∧(fmt≠1→∀ x∈t,V8 x)
def U0l (fmt:Int) (k:Nat) (PP:List Pc) (T:List (List Tk)) (raw raw':fY):Prop:=
 raw.size≤65536∧((Q0e fmt raw.data.toList∧(∀ p∈PP,p.pt≠k)∧raw'=raw)∨
  ∃ ts,RawOk fmt ts∧raw.data.toList=Q2 ts∧raw'.data.toList=Q2 (G6 ts 0 (V4 k PP) ((K7 k PP T).map (tsF fmt)))∧Q9c 0 (V4 k PP) (X0 ts).length∧∀ p∈PP,p.pt=k→p.lo≤(X0 ts).length∧p.hi≤(X0 ts).length)
structure BytesW (m fmt:Int) (Lm:List Int) (ps pe:List Pt) (ks:List (Nat×List Tk)):Prop where
 un:UnOk m fmt ps ks
 tr:Z0t m fmt (V0 ks) (F1 Lm (V0 ks) 0).1 (ks.map fun x=>x.1) ps pe
 len:pe.length=ps.length
 cnt:(V0 ks).length≤400
 src:∀ p∈V0 ks,p.src.length≤400∧X2 p.src≤20000
 enc:∀ t∈(F1 Lm (V0 ks) 0).1,U4h fmt t
 srt:(V0 ks).Pairwise fun a b=>a.pt≤b.pt
 top:∀ p∈V0 ks,p.pt < ps.length
 sz:(Y0 pe).length≤60000
 part:∀ k (h:k < ps.length) (h':k < pe.length),U0l fmt k (V0 ks) (F1 Lm (V0 ks) 0).1 ps[k].raw pe[k].raw
theorem X8e (k:Nat):∀ (l:List Pc) (p:Pc),p∈l→p.pt=k→(p.lo,p.hi)∈V4 k l
 | [],_,h,_=>by simp at h
 | q::l,p,h,hk=>by
   rw [V4];rcases aU.1 h with rfl | h
   ·rw [aK hk];exact List.mem_cons_self
   ·split
    ·exact dQ _ (X8e k l p h hk)
    ·exact X8e k l p h hk
theorem Z4g (n:Nat):∀ (rl:List (Nat×Nat)) (a:Nat),Q9c a rl n→∀ r∈rl,r.1≤n∧r.2≤n
 | [],_,_,r,h=>by simp at h
 | q::rl,a,⟨h1,h2,h3,h4⟩,r,h=>by
   rcases aU.1 h with rfl | h
   ·omega
   ·exact Z4g n rl q.2 h4 r h
theorem X3h:∀ (l:List Pc) (T:List (List Tk)),l.length=T.length→AllP (fun _ _=>True) l T
 | [],[],_=>trivial
 | _::l,_::T,h=>⟨trivial,X3h l T (by simpa using h)⟩
theorem Y5z {P:Nat×Nat→List Tk→Prop}:∀ {rl:List (Nat×Nat)} {tg:List (List Tk)},AllT P rl tg→∀ x∈tg.zip rl,P x.2 x.1
 | [],[],_,x,h=>by simp at h
 | r::rl,t::tg,⟨h1,h2⟩,x,h=>by
   rcases aU.1 h with rfl | h
   ·exact h1
   ·exact Y5z h2 x h
theorem U1a (m fmt:Int) (hf:D1 fmt) (Lm:List Int) (d:DS) (hd:d.Ok) (hfm:d.fmt=fmt) (hul:d.un.1.length≤3) (hsz:d.data.length≤25000)
 (hW:∀ u∈d.un.1,UnitW fmt u.ts∧ntx (X0 u.ts)≤10∧(X0 u.ts).length≤125∧(E5 [G8] (Q4 (X0 u.ts))).length≤16) (hsk:(∀ u∈d.un.1,Q0e fmt u.sk)∧Q0e fmt d.un.2):∃ pe,BytesW m fmt Lm d.ps pe (ksU d.un.1 0):=by
 obtain ⟨pe0,hK⟩:=U3r m fmt hf d hd hfm hul hsz fun u hu=>(hW u hu).1;have hn:=hK.un;clear hK pe0;obtain ⟨P,hP⟩:∃ P,d.un=P:=⟨_,rfl⟩;obtain ⟨us,tl⟩:=P;have he:d.ps=P9 us tl:=(by unfold DS.ps;rw [hP]);rw [hP] at hul hW hsk hn ⊢;simp only at hul hW hsk hn ⊢;have hI:(O0 us tl).length≤25000:=(by unfold DS.data at hsz;rwa [hP] at hsz);have ho:=Y2z Lm (V0 (ksU us 0)) 0;have hz:=Q4y Lm (V0 (ksU us 0)) 0;generalize hT:(F1 Lm (V0 (ksU us 0)) 0).1=T at *;have ha:∀ p∈V0 (ksU us 0),∃ j u,us[j]? =some u∧p.pt=2 * j+1∧p.src=slI (Q4 (X0 u.ts)) 0 p.lo p.hi:=fun p hp=>by
  obtain ⟨j,u,r,h1,h2,rfl⟩:=Y4s us 0 p hp;exact ⟨j,u,h1,by show 2 * (0+j)+1=_;omega,rfl⟩
 have hm:∀ j u,us[j]? =some u→UnitT fmt u (V4 (2 * j+1) (V0 (ksU us 0))) (K7 (2 * j+1) (V0 (ksU us 0)) T):=by
  intro j u hu;have hM:=AllP.pick (2 * j+1) ho;have hr:=Y4t us 0 j u hu;rw [bI] at hr;obtain ⟨w1,w2⟩:=hW u (cK hu);refine V6b fmt hf Lm u w1 w2 _ _ hr (AllT.imp (fun r t=>?_) hM);rintro ⟨p,hp,hC,rfl,M,rfl⟩;obtain ⟨j',u',h1,h2,h3⟩:=ha p hp;have hj:j'=j:=yY;subst hj;rw [hu] at h1;injection h1 with h1;subst h1;exact ⟨M,by rw [h3]⟩
 obtain ⟨hE,d',e1,e2,e3⟩:=V6c m fmt tl (V0 (ksU us 0)) T us [] d hd hfm hP (by simpa using aP hul yX) (by
  rw [bJ];omega) (fun j u hu=>by
  rw [show ([]:List Un).length+j=j from bI j];exact hm j u hu)
 have hH:(List.range us.length).map (fun (j:Nat)=>2 * (([]:List Un).length+j)+1)=(ksU us 0).map fun x=>x.1:=(X6e us 0).symm;rw [hH,bJ] at hE;have hw:(P9 (R6 fmt (V0 (ksU us 0)) T 0 us) tl).length=d.ps.length:=by
  rw [he,S9,S9,X4l]
 have hx:∀ p∈V0 (ksU us 0),p.src.length≤400∧X2 p.src≤20000:=fun p hp=>by
  obtain ⟨j,u,h1,_,h3⟩:=ha p hp;obtain ⟨w1,w2,w3,_⟩:=hW u (cK h1);obtain ⟨g1,g2⟩:=X9y fmt hf u.ts w1.raw w1.one p.lo p.hi;rw [←h3] at g1 g2;have hS:X3 p.src≤125:=by
   rw [←D2,g2,bM,bG];omega
  have hv:=Y5l fmt (X0 u.ts) w1.raw.num yY p.lo p.hi p.src g1 yY;have hU:ntx p.src≤10:=by
   rw [←Q4l,g2];exact aP (V4b ((List.drop_sublist _ _).trans (List.take_sublist _ _))) w2
  have hb:=Y6i p.src (Q8a p.src hv);have hl:=Q7d p.src (R3 _ g1.nrm);exact ⟨yY,yY⟩
 have hq:∀ (us':List Un) (j:Nat),(∀ i u,us'[i]? =some u→(Q2 (Q7t fmt (V0 (ksU us 0)) T (j+i) u).ts).length≤(Q2 u.ts).length+11600)→(O0 (R6 fmt (V0 (ksU us 0)) T j us') tl).length≤(O0 us' tl).length+11600 * us'.length:=by
  intro us';induction us' with
  | nil=>intro _ _;exact yQ
  | cons u us' ih=>
    intro j h;have i1:=ih (j+1) fun i v hv=>by
     have:=h (i+1) v hv;rwa [show j+1+i=j+(i+1) by omega]
    have i2:=h 0 u rfl;rw [cV] at i2;rw [R6,O0,O0,aG];simp only [aA];have i3:(Q7t fmt (V0 (ksU us 0)) T j u).sk=u.sk:=rfl;rw [i3];omega
 have hV:us.length * 2+1=d.ps.length:=(by rw [he,S9];omega);have hR:=hq us 0 fun i u hu=>by
  rw [bI];exact (hm i u hu).gro
 refine ⟨P9 (R6 fmt (V0 (ksU us 0)) T 0 us) tl,hn,?_,hw,?_,hx,?_,V5u us 0,?_,?_,?_⟩
 ·rw [hT];exact hE
 ·have:=V1r us 0 fun u hu=>(hW u hu).2.2.2;omega
 ·rw [hT];intro t ht;obtain ⟨i,hi,rfl⟩:=List.getElem_of_mem ht;have hB:i < (V0 (ksU us 0)).length:=yY;obtain ⟨j,u,h1,h2,h3⟩:=ha _ (aL hB);obtain ⟨w1,w2,w3,_⟩:=hW u (cK h1);have hp:=Y8t (2 * j+1) (V0 (ksU us 0)) T i hB hi h2;have hu:=hm j u h1;have hc:(T[i],((V0 (ksU us 0))[i].lo,(V0 (ksU us 0))[i].hi))∈(K7 (2 * j+1) (V0 (ksU us 0)) T).zip (V4 (2 * j+1) (V0 (ksU us 0))):=by
   have e:=Q2h (2 * j+1) ((V0 (ksU us 0)).take i) ((V0 (ksU us 0)).drop i);have e2:=X4g (2 * j+1) ((V0 (ksU us 0)).take i) (T.take i) ((V0 (ksU us 0)).drop i) (T.drop i) (by rw [bG,bG,←hz]);rw [bR] at e;rw [bR,bR] at e2;have hl:=AllT.len (AllP.pick (2 * j+1) (show AllP (fun _ _=>True) ((V0 (ksU us 0)).take i) (T.take i) from X3h _ _ (by rw [bG,bG,←hz])));rw [e,e2,List.zip_append hl.symm,hp.1,hp.2];exact List.mem_append_right _ List.mem_cons_self
  have hk:TgtOk fmt (((X0 u.ts).take (V0 (ksU us 0))[i].hi).drop (V0 (ksU us 0))[i].lo) T[i]:=Y5z hu.all _ hc;have hO:T[i]∈K7 (2 * j+1) (V0 (ksU us 0)) T:=(List.of_mem_zip hc).1;refine ⟨Y5l fmt (X0 u.ts) w1.raw.num yY _ _ T[i] hk (hu.tl _ hO),fun e=>?_,fun e=>Y3a fmt e _ _ hk⟩;subst e;exact X5p _ _ hk
 ·intro p hp;obtain ⟨j,u,h1,h2,_⟩:=ha p hp;have:=(aM.1 h1).1;omega
 ·have:=Q2k (R6 fmt (V0 (ksU us 0)) T 0 us) tl;unfold Y0;rw [this];omega
 ·rw [hT];intro k hk hk';have hN:d.ps[k].raw.size≤65536:=by
   have h1:d.ps[k].raw.data.toList∈d.ps.map fun p=>p.raw.data.toList:=cF.2 ⟨_,aL hk,rfl⟩;have h2:=(List.sublist_flatten_of_mem h1).length_le;have h3:((d.ps.map fun p=>p.raw.data.toList).flatten).length=(O0 us tl).length:=(by rw [he,Q2k us tl]);rw [aC];omega
  refine ⟨hN,?_⟩;obtain ⟨j,hj⟩:∃ j,k=2 * j∨k=2 * j+1:=⟨k / 2,yY⟩;rcases hj with hj | hj
  ·subst hj;obtain ⟨s,h1,h2,h3⟩:=Y9a fmt (V0 (ksU us 0)) T tl us 0 j yY;obtain ⟨_,hF⟩:=aM.1 h2;obtain ⟨_,hG⟩:=aM.1 h3;have hh:d.ps[2 * j]=⟨false,ofL [],ofL s⟩:=(by simp only [he];exact hF);refine .inl ⟨?_,fun p hp=>?_,by rw [hh,hG]⟩
   ·rw [hh];show Q0e fmt (ofL s).data.toList;rw [M1];rcases h1 with rfl | ⟨u,hu,rfl⟩
    ·exact hsk.2
    ·exact hsk.1 u hu
   ·obtain ⟨j',_,_,h4,_⟩:=ha p hp;omega
  ·subst hj;have hs:j < us.length:=yY;have hg:=Q4q us tl j hs;have hu:us[j]? =some us[j]:=aF hs;have hD:=X4k fmt (V0 (ksU us 0)) T us 0 j us[j] hu;rw [bI] at hD;obtain ⟨hL,hJ⟩:=aM.1 hD;have hA:=Q4q (R6 fmt (V0 (ksU us 0)) T 0 us) tl j hL;rw [hJ] at hA;obtain ⟨_,hv⟩:=aM.1 hg;obtain ⟨_,hQ⟩:=aM.1 hA;have hh:d.ps[2 * j+1]=⟨true,ofL us[j].key,ofL (Q2 us[j].ts)⟩:=(by simp only [he];exact hv);have hy:=hm j us[j] hu;refine .inr ⟨us[j].ts,(hW _ (aL hs)).1.raw,by rw [hh];exact M1 _,by rw [hQ];exact M1 _,hy.asc,fun p hp hC=>?_⟩;exact Z4g _ _ 0 hy.asc _ (X8e _ _ p hp hC)
structure Tv where
 t:List Tk
 A:Option Addr
 c:Nat
def Tv.v (y:Tv):Value:=.slice y.A y.t.length y.c
def tvC (y:Tv):List Value:=[y.v]
theorem X6n (y:Tv):(tvC y).length=1:=rfl
theorem Z7b (y:Tv):∀ u∈tvC y,u.oneCell'=true:=by
 intro u hu;simp [tvC,Tv.v] at hu;subst hu;rfl
theorem Z7c:(prog.info? 24).map (fun i=>(i.zero,i.size,i.bytes))=some (some (.slice none 0 0),1,24):=by kernel_rfl
structure TtO (W0:World) (B:Nat) (w:World) (v:Value) (L:List (List Tk)) (ys:List Tv):Prop where
 own:OwnE 24 tvC 1 w B v ys
 eq:ys.map (·.t)=L
 each:∀ y∈ys,RdT W0 y.v y.t
section
variable {W0:World} {B:Nat} {w w':World} {v v':Value} {L:List (List Tk)} {ys:List Tv}
theorem TtO.nil:TtO W0 B w (.slice none 0 0) [] []:=⟨OwnE.nil,rfl,fun _ h=>by simp at h⟩
theorem TtO.len (h:TtO W0 B w v L ys):ys.length=L.length:=by rw [←h.eq,bA]
theorem TtO.same (h:TtO W0 B w v L ys) (hk:∀ k,v.ownBlock=some k→w'.heap[k]? =w.heap[k]?):TtO W0 B w' v L ys:=⟨Q7 h.own hk,h.eq,h.each⟩
theorem TtO.below (h:TtO W0 B w v L ys) (hb:Below w.heap.size w w'):TtO W0 B w' v L ys:=h.same fun k hk=>hb.block k (h.own.lt k hk).2
theorem TtO.push (h:TtO W0 B w v L ys) (y:Tv) (hy:RdT W0 y.v y.t) (ho:OwnE 24 tvC 1 w' B v' (ys++[y])):TtO W0 B w' v' (L++[y.t]) (ys++[y]):=
 ⟨ho,by rw [cP,h.eq];rfl,fun z hz=>by
   rcases aS.1 hz with hz | hz
   ·exact h.each z hz
   ·rw [aJ.1 hz];exact hy⟩
theorem TtO.rd (h:TtO W0 B w v L ys) (hb:Below W0.heap.size W0 w):RdTT w v L:=by
 have hr:=h.own.rd X6n;obtain ⟨A,c,hv⟩:=Q0 h.own;subst hv;obtain ⟨ho,he,hx⟩:=h;subst he;refine ⟨A,c,by rw [bA],fun hl=>?_⟩;have hc:0 < ys.length:=by
  cases ys with
  | nil=>exact absurd rfl hl
  | cons y ys=>simp
 obtain ⟨b,o,hA,hd,ha⟩:=RdE.cells hr hc;refine ⟨b,o,hA,hd,fun i x hi=>?_⟩;rw [cE] at hi;cases hy:ys[i]? with
 | none=>rw [hy] at hi;cases hi
 | some y=>
   rw [hy] at hi;injection hi with hi;subst hi;refine ⟨y.A,y.c,?_,(hx y (cK hy)).below hb yQ⟩;have:=ha i y 0 _ hy rfl;simpa [Tv.v] using this
end
theorem Q5n {w w':World} {B B':Nat} {e e':TypeId} {size size' n n':Nat} {v u:Value} {xs xs':List Value} (hg:w.grownBy w' v.ownBlock) (ho:w.ownsRow B e size v n xs) (hu:w.ownsRow B' e' size' u n' xs') (hne:e≠e'):∀ k,u.ownBlock=some k→w'.heap[k]? =w.heap[k]? :=fun k hk=>
 hg.block k (hu.lt k hk).2 (fun e=>by
  obtain ⟨cur,hc⟩:=P3 ho e.symm;exact Y1 hu hc hne k hk rfl)
theorem V3a {w w':World} {B:Nat} {e t:TypeId} {size n:Nat} {v:Value} {xs:List Value} {b:Nat} {cs:Array Value} (hg:w.grownBy w' v.ownBlock) (ho:w.ownsRow B e size v n xs) (hb:w.heap[b]? =some (.cells cs t)) (hne:t≠e):w'.heap[b]? =some (.cells cs t):=
 (hg.block b (J5 hb) (fun e=>Y1 ho hb hne b e.symm rfl)).trans hb
theorem Q6x (L:List Int) (g N:Nat) (n:Nat) (w:World) (h:Nums w g L N) (hn:n≤8) (hN:N≤1000000):
 Calls prog 9 #[.pointer (some ⟨g,0,none⟩),.int .i64 n,.bool false,.bool true] w (Q0y g L (U8 false L N n) w):=by
 obtain ⟨R,hs⟩:∃ R,yK (R=Q0y g L (U8 false L N n) w):=⟨_,rfl⟩;rw [←hs.o];obtain ⟨tgt,HT⟩:∃ tgt,yK (D7 false L (Q8 L N ((n:Int)+1)).toNat ⟨[],[],0,N+1⟩=tgt):=⟨_,rfl⟩;have hF:yK (U8 false L N n=(tgt.f++K2 tgt.op,tgt.N)):=by
  show _=_;rw [←HT.o];rfl
 rw [hF.o] at hs;have hb:=X5 L N ((n:Int)+1) yY;have hE:=zW (Z2 L g N ((n:Int)+1) w h yY yY yY);have hY:=h.lt;generalize Q8 L N ((n:Int)+1)=z at HT hb hE;obtain ⟨m,rfl⟩:∃ m:Nat,z=(m:Int):=⟨z.toNat,yY⟩;rw [cH] at HT;have hm:m≤8:=yY;clear h hF;go_enter func9,ntmps9
 go_wp2_with fail
 refine (hE.o).mono ?_;rintro e w1 ⟨rfl,hb1,hn1⟩;have hy:=zW hb1;have hD:=zW hn1;clear hb1 hn1;go_wp2_with fail
 obtain ⟨wo,hH⟩:∃ wo,yK (wo=w1):=⟨w1,rfl⟩;go_loopg [9,10,11,12] m (fun gk fv ov dv iv wr=>∃ (s:FS) (i r:Nat),ov=.slice none 0 0∧dv=.int .i64 0∧iv=.int .i64 i∧r+i=m∧s.op=[]∧s.id=0∧s.N≤N+1+9 * r∧yK (FGK false s r)∧yK (OwnT 31 wr w.heap.size fv s.f)∧yK (But g w wr)∧yK (Nums wr g L s.N)∧yK (D7 false L i s=tgt)∧i≤gk)
 case atStart=>exact ⟨⟨[],[],0,N+1⟩,m,0,rfl,rfl,rfl,yY,rfl,rfl,(by show N+1≤N+1+9 * 0;omega),Q4e false (N+1),OwnE.nil,hy.o,hD.o,HT.o,yQ⟩
 case round=>
  clear hH hy hD HT;obtain ⟨⟨f,op,id,N'⟩,i,r,rfl,rfl,rfl,He,hP,hM,hW,hr,HF,HB,HN,HG,hgk⟩:=hrel;simp only at hP hM hW HF HN;subst hP hM;obtain ⟨A1,d1,hZ⟩:=Q0 HF.o;subst hZ;cases i with
  | zero=>
    have he:tgt=⟨f,[],0,N'⟩:=HG.o.symm;rw [he] at hs;have hu:yK (R=Q0y g L (f,N') w):=by
     show _=_;rw [hs.o];show Q0y g L (f++[],N') w=_;rw [aX]
    clear HG he;go_wp2_with fail
    obtain ⟨wo,hH⟩:∃ wo,yK (wo=wr):=⟨wr,rfl⟩;go_loopg [9,15] 0 (fun gk fv kv wr'=>wr'=wr∧fv=.slice A1 f.length d1∧kv=.int .i64 (-1))
    case atStart=>exact ⟨rfl,rfl,rfl⟩
    case round=>
     obtain ⟨rfl,rfl,rfl⟩:=hrel;go_wp2_with fail
     rw [hu.o];exact ⟨_,rfl,HF.o,HB.o,HN.o⟩
  | succ i=>
    have Hc:(0:Int) < ((i+1:Nat):Int):=yY;have hl:=Q4k L N' 3 yX;have hq:=zW (X4d L g N' 3 wr HN.o yY yX yX);have hg:=HG.o;rw [D7] at hg;have hQ:O8 false L ⟨f,[],0,N'⟩=⟨Q4 (f++[(U5 false L (Q8 L (J3 L N' 3).2 8) (J3 L N' 3).1 [] 0 ((J3 L N' 3).2+1)).1]),(U5 false L (Q8 L (J3 L N' 3).2 8) (J3 L N' 3).1 [] 0 ((J3 L N' 3).2+1)).2.1,
     (U5 false L (Q8 L (J3 L N' 3).2 8) (J3 L N' 3).1 [] 0 ((J3 L N' 3).2+1)).2.2.1,(U5 false L (Q8 L (J3 L N' 3).2 8) (J3 L N' 3).1 [] 0 ((J3 L N' 3).2+1)).2.2.2⟩:=rfl
    obtain ⟨ha,hi⟩:=FGK.step false L _ r hr.o;rw [hQ] at hg ha hi;have hV:=hr.o.len;have hU:=hr.o.bytes;simp only at hV hU;generalize J3 L N' 3=ln at hl hq hg ha hi;obtain ⟨t,M⟩:=ln;simp only at hl hq hg ha hi;have c8:=X5 L M 8 yX;have hv:=zW (fun w h=>Z2 L g M 8 w h yY yX yX);generalize Q8 L M 8=c at c8 hv hg ha hi;have hC:=zW hg;have ho:=zW ha;have hj:=zW hi;clear hQ ha hg HG hr hi;go_wp2_with fail
    refine (hq.o).mono ?_;rintro e w2 ⟨rfl,hb2,hn2⟩;have hw:=HB.o.trans hb2;have hp:=zW (Q7 HF.o (w':=w2) fun k hk=>by have:=HF.o.lt k hk;exact hb2.block k this.2 yY);have ht:=zW hn2;have Hb:=hn2.lt;have hA:=zW hw;have hx:=hw.size;clear hb2 hn2 hw HF HN hq HB;go_upto_block 2 with (go_at_call 34;refine (hv.o _ (by exact ht.o.alloc _)).mono ?_;rintro e w3 ⟨rfl,hb3,hn3⟩)
    have hd:FR g w2.heap.size w (.slice A1 f.length d1) f L (.slice none 0 0) [] ⟨1,t,0⟩ (M+1) w3:=by
     have h0:FR g w2.heap.size w (.slice A1 f.length d1) f L (.slice none 0 0) [] ⟨1,t,0⟩ M (w2.alloc (.cells #[.int .i64 1,.string t,.int .i64 0] 31)):=by
      refine ⟨Q7 hp.o fun k hk=>bE _ _ _ (hp.o.lt k hk).2,OwnE.nil,(fun k hk=>by intro h;cases h),fun k hk=>?_,(fun k hk=>by cases hk),aY,hA.o.alloc _,ht.o.alloc _,hY,hx⟩;have:=(hp.o.lt k hk).2;omega
     exact h0.call hb3 hn3
    have hL:=hn3.lt;clear hb3 hn3 hv hp ht hA;go_cut [10,11] (fun ov dv wx=>∃ (x:Tk) (M':Nat),ov=.slice none 0 0∧dv=.int .i64 0∧yK (U5 false L c t [] 0 (M+1)=(x,[],0,M'))∧FR g w2.heap.size w (.slice A1 f.length d1) f L (.slice none 0 0) [] x M' wx)
    case first=>
     rcases (show c=0∨c=1∨c=2∨c=3∨c=4∨c=5∨c=6∨c=7 from yY) with rfl | rfl | rfl | rfl | rfl | rfl | rfl | rfl
     ·have hz:=X5 L (M+1) 3 yX;have HI:yK (U5 false L 0 t [] 0 (M+1)=(⟨5,Q0d.getD (Q8 L (M+1) 3).toNat ⟨#[]⟩,0⟩,[],0,M+1+1)):=by
       show U5 false L 0 t [] 0 (M+1)=_;rfl
      have hh:=zW (fun w h=>Z2 L g (M+1) 3 w h yY yX yX);generalize Q8 L (M+1) 3=z at hz HI hh;have Ha:((z.toNat:Nat):Int)=z:=yY;go_wp2_with fail
      refine (hh.o _ (by exact hd.num.alloc (.cells (Q0d.map Value.string).toArray 9))).mono ?_;rintro e w5 ⟨rfl,hb5,hn5⟩;have q:=I8 (xs:=Q0d) z hz.1 hz.2 hL (by exact hb5);have hc:=(hd.alloc (.cells (Q0d.map Value.string).toArray 9)).call hb5 hn5;have hX:=hn5.lt;obtain ⟨p0,p1,p2,p3,p4,p5⟩:=T5 hc.box;generalize Q0d.getD z.toNat ⟨#[]⟩=word at q HI;clear hb5 hn5 hh;go_wp2_with fail
      go_meet
      exact ⟨⟨5,word,0⟩,M+1+1,rfl,rfl,HI.o,hc.set3 ⟨5,word,0⟩⟩
     ·have hz:=X5 L (M+1) 3 yX;have HI:yK (U5 false L 1 t [] 0 (M+1)=(⟨5,Q0d.getD (Q8 L (M+1) 3).toNat ⟨#[]⟩,0⟩,[],0,M+1+1)):=by
       show U5 false L 1 t [] 0 (M+1)=_;rfl
      have hh:=zW (fun w h=>Z2 L g (M+1) 3 w h yY yX yX);generalize Q8 L (M+1) 3=z at hz HI hh;have Ha:((z.toNat:Nat):Int)=z:=yY;go_wp2_with fail
      refine (hh.o _ (by exact hd.num.alloc (.cells (Q0d.map Value.string).toArray 9))).mono ?_;rintro e w5 ⟨rfl,hb5,hn5⟩;have q:=I8 (xs:=Q0d) z hz.1 hz.2 hL (by exact hb5);have hc:=(hd.alloc (.cells (Q0d.map Value.string).toArray 9)).call hb5 hn5;have hX:=hn5.lt;obtain ⟨p0,p1,p2,p3,p4,p5⟩:=T5 hc.box;generalize Q0d.getD z.toNat ⟨#[]⟩=word at q HI;clear hb5 hn5 hh;go_wp2_with fail
      go_meet
      exact ⟨⟨5,word,0⟩,M+1+1,rfl,rfl,HI.o,hc.set3 ⟨5,word,0⟩⟩
     ·have HI:yK (U5 false L 2 t [] 0 (M+1)=(⟨1,t,0⟩,[],0,M+1)):=by
       show U5 false L 2 t [] 0 (M+1)=_;rfl
      go_wp2_with fail
      go_meet
      exact ⟨⟨1,t,0⟩,M+1,rfl,rfl,HI.o,hd⟩
     ·have HI:yK (U5 false L 3 t [] 0 (M+1)=(⟨1,t,0⟩,[],0,M+1)):=by
       show U5 false L 3 t [] 0 (M+1)=_;rfl
      go_wp2_with fail
      go_meet
      exact ⟨⟨1,t,0⟩,M+1,rfl,rfl,HI.o,hd⟩
     ·have HI:yK (U5 false L 4 t [] 0 (M+1)=(⟨1,t,0⟩,[],0,M+1)):=by
       show U5 false L 4 t [] 0 (M+1)=_;rfl
      go_wp2_with fail
      go_meet
      exact ⟨⟨1,t,0⟩,M+1,rfl,rfl,HI.o,hd⟩
     ·have HI:yK (U5 false L 5 t [] 0 (M+1)=(⟨1,t,0⟩,[],0,M+1)):=by
       show U5 false L 5 t [] 0 (M+1)=_;rfl
      go_wp2_with fail
      go_meet
      exact ⟨⟨1,t,0⟩,M+1,rfl,rfl,HI.o,hd⟩
     ·have HI:yK (U5 false L 6 t [] 0 (M+1)=(⟨1,t,0⟩,[],0,M+1)):=by
       show U5 false L 6 t [] 0 (M+1)=_;rfl
      go_wp2_with fail
      go_meet
      exact ⟨⟨1,t,0⟩,M+1,rfl,rfl,HI.o,hd⟩
     ·have HI:yK (U5 false L 7 t [] 0 (M+1)=(⟨1,t,0⟩,[],0,M+1)):=by
       show U5 false L 7 t [] 0 (M+1)=_;rfl
      go_wp2_with fail
      go_meet
      exact ⟨⟨1,t,0⟩,M+1,rfl,rfl,HI.o,hd⟩
    case rest=>
     obtain ⟨x,M',rfl,rfl,hI,HX⟩:=hcut;have hG:=hC.o;have hO:=ho.o;have hJ:=hj.o;rw [hI.o] at hG hO hJ;simp only at hG hO hJ;have hR:=zW hG;have hT:=zW hO;have Hd:x.t.size≤18:=(X7v false L c t [] 0 (M+1) r hl.1 yW yW yY (fun _=>rfl) x [] 0 M' hI.o).1;obtain ⟨p0,p1,p2,_⟩:=T5 HX.box;clear hG hO hC ho hj;go_wp2_with fail
     refine (Q1o f [x] _ _ _ (by exact (OwnE.rd Q5 HX.own).alloc _) (by exact RdT.one_at _ _ rfl x _) (by rw [bZ];omega) (by rw [F6];omega)).mono ?_;rintro e w9 ⟨v9,rfl,hf,hK⟩;have hS:=zW hf;have hB:=zW (((aB wc.heap.size wc).alloc yQ _).trans (hK.mono yW));clear hf hK;go_wp2_with fail
     have Hg:=HX.but.size;have Hf:(wc.alloc (.cells (tkC x).toArray 31)).heap.size=wc.heap.size+1:=yW;go_roundg i
     case measure=>omega
     case rel=>exact ⟨⟨Q4 (f++[x]),[],0,M'⟩,i,r+1,rfl,rfl,by go_num,yY,rfl,rfl,by show M'≤_;omega,hT.o,Y3 hS.o (by show w.heap.size≤(wc.alloc (.cells (tkC x).toArray 31)).heap.size;omega),HX.but.trans (But.of_below hB.o),HX.num.keepg fun k hk=>hB.o.block k yY,hR.o,yQ⟩
def CellK (g:Nat) (W:World) (ga z:Nat) (b:fY):Prop:=ga < W.heap.size∧ga≠g∧W.cell? ⟨ga,z,none⟩=some (.string b)
theorem CellK.but {g ga z:Nat} {W W':World} {b:fY} (h:CellK g W ga z b) (hb:But g W W'):CellK g W' ga z b:=
 ⟨bC h.1 hb.size,h.2.1,by rw [dX (w:=W) (hb.block _ h.1 h.2.1)];exact h.2.2⟩
theorem CellK.alloc {g ga z:Nat} {W:World} {b:fY} (h:CellK g W ga z b) (o:Obj):CellK g (W.alloc o) ga z b:=h.but ((But.refl g W).alloc o)
theorem CellK.new {g z:Nat} (W:World) (xs:List fY) (t:TypeId) (hg:g < W.heap.size) (hz:z < xs.length):CellK g (W.alloc (.cells (xs.map Value.string).toArray t)) W.heap.size z (xs.getD z ⟨#[]⟩):=
 ⟨by simp,yY,Q2r W _ rfl xs t z hz⟩
theorem Q5l {o:Oper} {a:Act} {w:World} (ho:o.op=.buildSlice 79 2 #[(0,.const (.string ⟨#[]⟩)),(1,.const (.string ⟨#[32,99,61,34,49,34]⟩))]):(execOp a.eval o).run prog w=.ok (.value (.slice (some ⟨w.heap.size,0,none⟩) 2 2)) (w.alloc (.cells #[.string ⟨#[]⟩,.string ⟨#[32,99,61,34,49,34]⟩] 9)):=by
 have h0:a.eval (.const (.string ⟨#[]⟩))=.string ⟨#[]⟩:=rfl;have h1:a.eval (.const (.string ⟨#[32,99,61,34,49,34]⟩))=.string ⟨#[32,99,61,34,49,34]⟩:=rfl;generalize a.eval=ρ at h0 h1 ⊢;unfold execOp;simp only [ho];go_simp
theorem Q3l {o:Oper} {a:Act} {w:World} (ho:o.op=.buildSlice 79 3 #[(0,.const (.string ⟨#[]⟩)),(1,.const (.string ⟨#[10]⟩)),(2,.const (.string ⟨#[60,104,114,47,62]⟩))]):(execOp a.eval o).run prog w=.ok (.value (.slice (some ⟨w.heap.size,0,none⟩) 3 3)) (w.alloc (.cells #[.string ⟨#[]⟩,.string ⟨#[10]⟩,.string ⟨#[60,104,114,47,62]⟩] 9)):=by
 have h0:a.eval (.const (.string ⟨#[]⟩))=.string ⟨#[]⟩:=rfl;have h1:a.eval (.const (.string ⟨#[10]⟩))=.string ⟨#[10]⟩:=rfl;have h2:a.eval (.const (.string ⟨#[60,104,114,47,62]⟩))=.string ⟨#[60,104,114,47,62]⟩:=rfl;generalize a.eval=ρ at h0 h1 h2 ⊢;unfold execOp;simp only [ho];go_simp
theorem Z7o (L:List Int) (g N n:Nat) (w:World) (h:Nums w g L N) (hn:n≤3) (hN:N≤10000):
 Calls prog 86 #[.pointer (some ⟨g,0,none⟩),.int .i64 1,.int .i64 (n:Nat)] w (fun e w'=>e=.returned (.string (ofL (F8 L N n 1).data))∧(F8 L N n 1).data.length≤25000∧But g w w'):=by
 obtain ⟨R,hq⟩:∃ R:Ending→World→Prop,yK (R=fun e w'=>e=.returned (.string (ofL (F8 L N n 1).data))∧(F8 L N n 1).data.length≤25000∧But g w w'):=⟨_,rfl⟩;rw [←hq.o];obtain ⟨tgt,HT⟩:∃ tgt,yK (Q9x L (Q8 L (N+1) ((n:Int)+1)).toNat 0 (X0d.getD (Q8 L N 3).toNat []) (N+2)=tgt):=⟨_,rfl⟩;have hB:yK ((F8 L N n 1).data=X7 tgt.1):=by
  show _=_;unfold F8;rw [aK rfl,HT.o];exact Q6a _
 rw [hB.o] at hq;clear hB;have hf:=X5 L N 3 yX;have hc:=X5 L (N+1) ((n:Int)+1) yY;have CX0:=zW (fun W h=>Z2 L g N 3 W h yY yX yX);have CX1:=zW (fun W h=>Z2 L g (N+1) ((n:Int)+1) W h yY yY yY);generalize Q8 L N 3=z at *;generalize Q8 L (N+1) ((n:Int)+1)=y at *;obtain ⟨m,rfl⟩:∃ m:Nat,y=(m:Int):=⟨y.toNat,yY⟩;rw [cH] at HT;have hm:m≤3:=yY;have hI:yK ([⟨#[]⟩,⟨#[60,104,116,109,108,62]⟩,⟨#[60,33,45,45,32,60,112,62,32,45,45,62,120]⟩].getD z.toNat (⟨#[]⟩:fY)=ofL (X7 (X0d.getD z.toNat []))∧(X7 (X0d.getD z.toNat [])).length≤20):=by
  rcases (show z=0∨z=1∨z=2 by omega) with rfl | rfl | rfl<;>exact ⟨rfl,yX⟩
 have Hk:((z.toNat:Nat):Int)=z:=yY;have hV:=h.lt;have hC:=zW h;have hr:=zW (But.refl g w);clear h hc;go_enter func86,ntmps86
 go_wp2_with fail
 refine (CX0.o _ (by exact hC.o.alloc (.cells #[.string ⟨#[]⟩,.string ⟨#[60,104,116,109,108,62]⟩,.string ⟨#[60,33,45,45,32,60,112,62,32,45,45,62,120]⟩] 9))).mono ?_;rintro e w1 ⟨rfl,hb1',hn1⟩;have q:=I8 (w:=w) (xs:=[⟨#[]⟩,⟨#[60,104,116,109,108,62]⟩,⟨#[60,33,45,45,32,60,112,62,32,45,45,62,120]⟩]) (t:=9) z hf.1 (by simpa using hf.2) hV (by exact hb1');rw [hI.o.1] at q;have hh:=zW (((But.refl g w).alloc (.cells #[.string ⟨#[]⟩,.string ⟨#[60,104,116,109,108,62]⟩,.string ⟨#[60,33,45,45,32,60,112,62,32,45,45,62,120]⟩] 9)).trans hb1');have hl:=zW hn1;have hZ:=hI.o.2;clear hb1' hn1 hr hC CX0;go_wp2_with (go_at_call 34;refine (CX1.o _ (by exact hl.o)).mono ?_;rintro e w2 ⟨rfl,hc,hg⟩;have hi:=zW (hh.o.trans hc);have hp:=zW hg;clear hc hg)
 go_loopg [7,9] m (fun gk sv iv wr=>∃ (i k:Nat) (ms:List MK) (M:Nat),iv=.int .i64 (i:Nat)∧sv=.string (ofL (X7 ms))∧k+i=m∧M≤N+2+503 * k∧(X7 ms).length≤20+7000 * k∧yK (Q9x L i k ms M=tgt)∧yK (But g w wr)∧yK (Nums wr g L M)∧i≤gk)
 case atStart=>exact ⟨m,0,X0d.getD z.toNat [],N+2,rfl,rfl,yY,yY,aP hZ yY,HT.o,hi.o,hp.o,yQ⟩
 case round=>
  clear HT hh hl hi hp q;obtain ⟨i,k,ms,M,rfl,rfl,Hj,hM,hK,HG,HB,HN,hgk⟩:=hrel;cases i with
  | zero=>
    have he:tgt=(ms,M):=HG.o.symm;rw [he] at hq;clear HG he;go_wp2_with fail
    first | go_ret | skip
    rw [hq.o];exact ⟨rfl,by show (X7 ms).length≤25000;omega,HB.o⟩
  | succ i=>
    have Hi:(0:Int) < ((i+1:Nat):Int):=yY;have hk:=HG.o;rw [Q9x] at hk;have hH:yK (J9 1 L M=V1 1 L (X9 (U8 true L M ((5:Nat):Int)).1) (U8 true L M ((5:Nat):Int)).2):=rfl;have hF:=V2v 1 (.inl rfl) L M;have hF':FOkW 1 (U8 true L M ((5:Nat):Int)).1:=hF;obtain ⟨_,_,u3⟩:=W9 1 (.inl rfl) L M;obtain ⟨u4,_,_⟩:=X3c 1 (.inl rfl) L M;have hT:(U8 true L M ((5:Nat):Int)).2≤M+73:=(by have:=(Q6w true L M 5 yX).2.2.2.2.2;omega);have CF:=zW (fun W h=>Y0q L g M 5 W h yX yY);have CR:=zW (fun (A:Option Addr) (c:Nat) (W:World) h Ha=>X9h 1 (.inl rfl) L g (U8 true L M ((5:Nat):Int)).2 (U8 true L M ((5:Nat):Int)).1 A c W h Ha hF' yY);rw [←hH.o] at CR;generalize J9 1 L M=u at *;generalize U8 true L M ((5:Nat):Int)=fr at *;obtain ⟨f,fN⟩:=fr;simp only at CR hT;have c1:=X5 L u.2 3 yX;have c2:=X5 L (u.2+1) 2 yX;have c3:=X5 L (u.2+2) 3 yX;obtain ⟨k1,k2,k3⟩:=X8m (Q8 L u.2 3).toNat yY (Q8 L (u.2+1) 2).toNat yY;have CNN:=zW (fun W h=>Z2 L g u.2 3 W h yY yX yX);have CN1:=zW (fun W h=>Z2 L g (u.2+1) 2 W h yY yX yX);have CN2:=zW (fun W h=>Z2 L g (u.2+2) 3 W h yY yX yX);generalize Q8 L u.2 3=zn at *;generalize Q8 L (u.2+1) 2=za at *;generalize Q8 L (u.2+2) 3=zs at *;obtain ⟨z1,rfl⟩:∃ z1:Nat,za=(z1:Int):=⟨za.toNat,yY⟩;obtain ⟨z2,rfl⟩:∃ z2:Nat,zs=(z2:Int):=⟨zs.toNat,yY⟩;rw [cH] at hk k1 k2 k3;rw [cH] at hk;have He:((zn.toNat:Nat):Int)=zn:=yY;have hJ:yK ([⟨#[112]⟩,⟨#[108,105]⟩,⟨#[116,105,116,108,101]⟩].getD zn.toNat (⟨#[]⟩:fY)=ofL (Q3n.getD zn.toNat [])∧(Q3n.getD zn.toNat []).length≤5):=by
     rcases (show zn=0∨zn=1∨zn=2 by omega) with rfl | rfl | rfl<;>exact ⟨rfl,yX⟩
    have hu:yK ([⟨#[]⟩,⟨#[32,99,61,34,49,34]⟩].getD z1 (⟨#[]⟩:fY)=ofL (Q3z.getD z1 [])∧(Q3z.getD z1 []).length≤6):=by
     rcases (show z1=0∨z1=1 by omega) with rfl | rfl<;>exact ⟨rfl,yX⟩
    have hv:yK ([⟨#[]⟩,⟨#[10]⟩,⟨#[60,104,114,47,62]⟩].getD z2 (⟨#[]⟩:fY)=ofL (X7 (Q7y.getD z2 []))∧(X7 (Q7y.getD z2 [])).length≤5):=by
     rcases (show z2=0∨z2=1∨z2=2 by omega) with rfl | rfl | rfl<;>exact ⟨rfl,yX⟩
    obtain ⟨b1,hf⟩:∃ b1,yK (ofL (Q3z.getD z1 [])=b1):=⟨_,rfl⟩;obtain ⟨b2,hc⟩:∃ b2,yK (ofL (X7 (Q7y.getD z2 []))=b2):=⟨_,rfl⟩;obtain ⟨nm,hw⟩:∃ nm,yK (ofL (Q3n.getD zn.toNat [])=nm):=⟨_,rfl⟩;obtain ⟨rw_,hx⟩:∃ rw_,yK (ofL (Q2 u.1)=rw_):=⟨_,rfl⟩;obtain ⟨D,hD⟩:∃ D,yK (ofL (X7 ms)=D):=⟨_,rfl⟩;have hR:b1.size≤6:=(by rw [←hf.o,Q6];exact hu.o.2);have hS:b2.size≤5:=(by rw [←hc.o,Q6];exact hv.o.2);have hY:nm.size≤5:=(by rw [←hw.o,Q6];exact hJ.o.2);have Hb:rw_.size≤6880:=(by rw [←hx.o,Q6];exact u4);have Hg:D.size≤25000:=(by rw [←hD.o,Q6];omega);have hy:z1 < 2:=yY;have hz:z2 < 3:=yY;have Hc:(z1:Int) < 2:=yY;have Hd:(z2:Int) < 3:=yY;have hd:yK (∀ W:World,g < W.heap.size→CellK g (W.alloc (.cells #[.string ⟨#[]⟩,.string ⟨#[32,99,61,34,49,34]⟩] 9)) W.heap.size z1 b1):=fun W hW=>by
     have:=CellK.new W [⟨#[]⟩,⟨#[32,99,61,34,49,34]⟩] 9 hW (by simpa using hy);rw [hu.o.1,hf.o] at this;exact this
    have ha:yK (∀ W:World,g < W.heap.size→CellK g (W.alloc (.cells #[.string ⟨#[]⟩,.string ⟨#[10]⟩,.string ⟨#[60,104,114,47,62]⟩] 9)) W.heap.size z2 b2):=fun W hW=>by
     have:=CellK.new W [⟨#[]⟩,⟨#[10]⟩,⟨#[60,104,114,47,62]⟩] 9 hW (by simpa using hz);rw [hv.o.1,hc.o] at this;exact this
    have hA:yK (D++((⟨#[60]⟩:fY)++nm++b1++(⟨#[62]⟩:fY)++rw_++(⟨#[60,47]⟩:fY)++nm++(⟨#[62]⟩:fY)++b2)=ofL (X7 (ms++(.blk (Q3n.getD zn.toNat []++Q3z.getD z1 []) (I9 (k+1)) u.1::Q7y.getD z2 [])))):=by
     show _=_;rw [←hD.o,←hw.o,←hf.o,←hc.o,←hx.o,Q7n,show X7 (.blk (Q3n.getD zn.toNat []++Q3z.getD z1 []) (I9 (k+1)) u.1::Q7y.getD z2 [])=Y5 (.blk (Q3n.getD zn.toNat []++Q3z.getD z1 []) (I9 (k+1)) u.1)++X7 (Q7y.getD z2 []) from rfl];rw [show ∀ t key (ts:Els),Y5 (.blk t key ts)=60::t++(62::(Q2 ts++(60::47::(Z0 t++[62])))) from fun _ _ _=>rfl,k3];apply cB;apply bX.1;simp [ofL]
    have hX:(X7 (ms++(.blk (Q3n.getD zn.toNat []++Q3z.getD z1 []) (I9 (k+1)) u.1::Q7y.getD z2 []))).length≤20+7000 * (k+1):=by
     have:=congrArg ByteArray.size hA.o;rw [Q6] at this;rw [←this];have Hf:D.size≤20+7000 * k:=(by rw [←hD.o,Q6];exact hK);simp only [bD];show D.size+(1+nm.size+b1.size+1+rw_.size+2+nm.size+1+b2.size)≤_;omega
    have hO:=zW hk;have Hh:=HN.o.lt;clear HG hk hH hF hF' u4 k1 k2 k3 hK hu hv;rw [hD.o];go_wp2_with fail
    refine (CF.o _ (by exact HN.o)).mono ?_;rintro e w1 ⟨v,rfl,ho,hb,hn1⟩;obtain ⟨Af,cf,rfl⟩:=Q0 ho;have hh:=zW (HB.o.trans hb);have hl:=zW hn1;have hG:yK (∀ W,But g w1 W→RdT W (.slice Af f.length cf) f):=fun W hW=>OwnE.rd Q5 (Q7 ho fun j hj=>hW.block j (ho.lt j hj).2 (by have:=(ho.lt j hj).1;omega));clear ho hb hn1 HB HN CF;go_wp2_with fail
    refine (CR.o _ _ _ (by exact hl.o) (by exact hG.o)).mono ?_;rintro e w2 ⟨rfl,hb,hg⟩;have hi:=zW (hh.o.trans hb);have hp:=zW hg;have hU:=hg.lt;rw [hx.o];clear hb hg hh hl CR hG;go_wp2_with fail
    refine (CNN.o _ (by exact hp.o.alloc (.cells #[.string ⟨#[112]⟩,.string ⟨#[108,105]⟩,.string ⟨#[116,105,116,108,101]⟩] 9))).mono ?_;rintro e w3 ⟨rfl,hb3,hn3⟩;have q:=I8 (w:=w2) (xs:=[⟨#[112]⟩,⟨#[108,105]⟩,⟨#[116,105,116,108,101]⟩]) (t:=9) zn c1.1 (by simpa using c1.2) hU (by exact hb3);rw [hJ.o.1,hw.o] at q;have hL:=zW ((hi.o.alloc (.cells #[.string ⟨#[112]⟩,.string ⟨#[108,105]⟩,.string ⟨#[116,105,116,108,101]⟩] 9)).trans hb3);have hE:=zW hn3;clear hb3 hn3 hi hp CNN;obtain ⟨P,hP⟩:∃ P,P=u.2+1:=⟨_,rfl⟩;rw [←hP] at hE CN1;rw [show u.2+2=P+1 by omega] at CN2;go_upto_region 19 with fail
    let t1:fY:=(⟨#[60]⟩:fY)++nm
    let t2:=t1++b1
    let t3:=t2++(⟨#[62]⟩:fY)
    let t4:=t3++rw_
    let t5:=t4++(⟨#[60,47]⟩:fY)
    let t6:=t5++nm
    let t7:=t6++(⟨#[62]⟩:fY)
    let t8:=t7++b2
    let t9:=D++t8
    have s1:t1.size≤6:=(by show ((⟨#[60]⟩:fY)++nm).size≤6;rw [bD];show 1+_≤_;omega);have s2:t2.size≤12:=(by show (t1++b1).size≤_;rw [bD];omega);have s3:t3.size≤13:=(by show (t2++(⟨#[62]⟩:fY)).size≤_;rw [bD];show _+1≤_;omega);have s4:t4.size≤6893:=(by show (t3++rw_).size≤_;rw [bD];omega);have s5:t5.size≤6895:=(by show (t4++(⟨#[60,47]⟩:fY)).size≤_;rw [bD];show _+2≤_;omega);have s6:t6.size≤6900:=(by show (t5++nm).size≤_;rw [bD];omega);have s7:t7.size≤6901:=(by show (t6++(⟨#[62]⟩:fY)).size≤_;rw [bD];show _+1≤_;omega);have s8:t8.size≤6906:=(by show (t7++b2).size≤_;rw [bD];omega);have hs:yK (But g w w3.drew):=hL.o.drewN 1;have ht:yK (Nums w3.drew g L P):=hE.o;refine zqR (l0:=bL 24 0) 24 kr ?_;show let o:=_;let q:=_;let a0:=_;wpAny prog _ o q _ _ a0 _
    intro o q a0;let a_:Act:=((((((a0.put (some 76) (.string D)).put (some 77) (.string nm)).put (some 78) (.string t1)).put (some 80) (.pointer (some ⟨g,0,none⟩))).put (some 86) (.string rw_)).put (some 89) (.string nm)).put (some 93) (.pointer (some ⟨g,0,none⟩))
    let a_0:Nat→Act:=fun ga1=>a_.put (some 79) (.slice (some ⟨ga1,0,none⟩) 2 2)
    let a_1:Act:=a_.put (some 81) (.int .i64 (z1:Int))
    let a_3:Nat→Act:=fun ga2=>a_.put (some 92) (.slice (some ⟨ga2,0,none⟩) 3 3)
    let a_01:Nat→Act:=fun ga1=>((a_0 ga1).put (some 81) (.int .i64 (z1:Int))).put (some 82) (.pointer (some ⟨ga1,z1,none⟩))
    let a_03:Nat→Nat→Act:=fun ga1 ga2=>(a_0 ga1).put (some 92) (.slice (some ⟨ga2,0,none⟩) 3 3)
    let a_13:Nat→Act:=fun ga2=>a_1.put (some 92) (.slice (some ⟨ga2,0,none⟩) 3 3)
    let a_14:Act:=a_1.put (some 94) (.int .i64 (z2:Int))
    let a_012:Nat→Act:=fun ga1=>(((((((a_01 ga1).put (some 83) (.string b1)).put (some 84) (.string t2)).put (some 85) (.string t3)).put (some 87) (.string t4)).put (some 88) (.string t5)).put (some 90) (.string t6)).put (some 91) (.string t7)
    let a_013:Nat→Nat→Act:=fun ga1 ga2=>(a_01 ga1).put (some 92) (.slice (some ⟨ga2,0,none⟩) 3 3)
    let a_014:Nat→Act:=fun ga1=>(a_01 ga1).put (some 94) (.int .i64 (z2:Int))
    let a_134:Nat→Act:=fun ga2=>((a_13 ga2).put (some 94) (.int .i64 (z2:Int))).put (some 95) (.pointer (some ⟨ga2,z2,none⟩))
    let a_0123:Nat→Nat→Act:=fun ga1 ga2=>(a_012 ga1).put (some 92) (.slice (some ⟨ga2,0,none⟩) 3 3)
    let a_0124:Nat→Act:=fun ga1=>(a_012 ga1).put (some 94) (.int .i64 (z2:Int))
    let a_0134:Nat→Nat→Act:=fun ga1 ga2=>((a_013 ga1 ga2).put (some 94) (.int .i64 (z2:Int))).put (some 95) (.pointer (some ⟨ga2,z2,none⟩))
    let a_1345:Nat→Act:=fun ga2=>(a_134 ga2).put (some 96) (.string b2)
    let a_01234:Nat→Nat→Act:=fun ga1 ga2=>((a_0123 ga1 ga2).put (some 94) (.int .i64 (z2:Int))).put (some 95) (.pointer (some ⟨ga2,z2,none⟩))
    let a_01345:Nat→Nat→Act:=fun ga1 ga2=>(a_0134 ga1 ga2).put (some 96) (.string b2)
    let a_012345:Nat→Nat→Act:=fun ga1 ga2=>((((a_01234 ga1 ga2).put (some 96) (.string b2)).put (some 97) (.string t8)).put (some 98) (.string t9)).put (some 7) (.string t9)
    have S012345:∀ (W:World) (ga1:Nat) (ga2:Nat),But g w W→Nums W g L (P+2)→wpAny prog .any o q 0 (bL 24 16777215) (a_012345 ga1 ga2) W:=by
     intro W ga1 ga2 HB HN;simp only [a_012345,a_01234,a_0123,a_012,a_01,a_0,a_,a0,Act.put,zZ,zY,zX];refine bW yZ ?_ _;simp only [q];go_wp2_with fail
     have hQ:Nums W g L (u.2+3):=(by rw [show u.2+3=P+2 by omega];exact HN);go_roundg i
     case measure=>omega
     case rel=>exact ⟨i,k+1,_,u.2+3,rfl,congrArg Value.string hA.o,yY,yY,hX,hO.o,HB,hQ,yQ⟩
    have S01234:∀ (W:World) (ga1:Nat) (ga2:Nat),But g w W→Nums W g L (P+2)→CellK g W ga2 z2 b2→wpAny prog .any o q 4 (bL 24 1048575) (a_01234 ga1 ga2) W:=by
     intro W ga1 ga2 HB HN HC2;simp only [a_01234,a_0123,a_012,a_01,a_0,a_,a0,Act.put,zZ,zY,zX];refine zqo 20 rfl ?_;refine zqL (.string b2) rfl (.pointer (some ⟨ga2,z2,none⟩)) (E4 HC2.2.2) ?_;refine zqD 21 97 rfl rfl t7 b2 ?_;refine zqD 22 98 rfl rfl D t8 ?_;refine zqG 23 7 (.string t9) rfl ?_;exact zqX (S012345 W ga1 ga2 HB HN)
    have S0123:∀ (W:World) (ga1:Nat) (ga2:Nat),But g w W→Nums W g L (P+1)→CellK g W ga2 z2 b2→wpAny prog .any o q 6 (bL 24 262143) (a_0123 ga1 ga2) W:=by
     intro W ga1 ga2 HB HN HC2;simp only [a_0123,a_012,a_01,a_0,a_,a0,Act.put,zZ,zY,zX];refine zqo 18 rfl ?_;refine Q0s (.pointer (some ⟨g,0,none⟩)) (.int .i64 3) rfl func34 (CN2.o _ HN) ?_;rintro e w5 ⟨rfl,hb5,hn5⟩;refine ⟨.int .i64 (z2:Int),rfl,?_⟩;refine zqI 19 95 (.pointer (some ⟨ga2,z2,none⟩)) rfl rfl (.slice (some ⟨ga2,0,none⟩) 3 3) (.int .i64 (z2:Int)) ?_;exact zqX (S01234 w5 ga1 ga2 (HB.trans hb5) hn5 (HC2.but hb5))
    have S0124:∀ (W:World) (ga1:Nat),But g w W→Nums W g L (P+2)→wpAny prog .any o q 6 (bL 24 458751) (a_0124 ga1) W:=by
     intro W ga1 HB HN;simp only [a_0124,a_012,a_01,a_0,a_,a0,Act.put,zZ,zY,zX];refine zqo 16 rfl ?_;refine X1 (Q3l rfl) ?_;refine zqI 19 95 (.pointer (some ⟨W.heap.size,z2,none⟩)) rfl rfl (.slice (some ⟨W.heap.size,0,none⟩) 3 3) (.int .i64 (z2:Int)) ?_;exact zqX (S01234 _ ga1 W.heap.size (HB.alloc _) (HN.alloc _) (ha.o W HN.lt))
    have S012:∀ (W:World) (ga1:Nat),But g w W→Nums W g L (P+1)→wpAny prog .any o q 7 (bL 24 196607) (a_012 ga1) W:=by
     intro W ga1 HB HN;simp only [a_012,a_01,a_0,a_,a0,Act.put,zZ,zY,zX];refine zqt 16 18 rfl rfl ?_ ?_
     ·refine X1 (Q3l rfl) ?_;exact zqX (S0123 _ ga1 W.heap.size (HB.alloc _) (HN.alloc _) (ha.o W HN.lt))
     ·refine Q0s (.pointer (some ⟨g,0,none⟩)) (.int .i64 3) rfl func34 (CN2.o _ HN) ?_;rintro e w5 ⟨rfl,hb5,hn5⟩;refine ⟨.int .i64 (z2:Int),rfl,?_⟩;exact zqX (S0124 w5 ga1 (HB.trans hb5) hn5)
    have S01345:∀ (W:World) (ga1:Nat) (ga2:Nat),But g w W→Nums W g L (P+2)→CellK g W ga1 z1 b1→wpAny prog .any o q 10 (bL 24 2040959) (a_01345 ga1 ga2) W:=by
     intro W ga1 ga2 HB HN HC1;simp only [a_01345,a_0134,a_013,a_01,a_0,a_,a0,Act.put,zZ,zY,zX];refine zqo 7 rfl ?_;refine zqL (.string b1) rfl (.pointer (some ⟨ga1,z1,none⟩)) (E4 HC1.2.2) ?_;refine zqD 8 84 rfl rfl t1 b1 ?_;refine zqD 9 85 rfl rfl t2 (⟨#[62]⟩:fY) ?_;refine zqD 11 87 rfl rfl t3 rw_ ?_;refine zqD 12 88 rfl rfl t4 (⟨#[60,47]⟩:fY) ?_;refine zqD 14 90 rfl rfl t5 nm ?_;refine zqD 15 91 rfl rfl t6 (⟨#[62]⟩:fY) ?_;refine zqD 21 97 rfl rfl t7 b2 ?_;refine zqD 22 98 rfl rfl D t8 ?_;refine zqG 23 7 (.string t9) rfl ?_;exact zqX (S012345 W ga1 ga2 HB HN)
    have S0134:∀ (W:World) (ga1:Nat) (ga2:Nat),But g w W→Nums W g L (P+2)→CellK g W ga1 z1 b1→CellK g W ga2 z2 b2→wpAny prog .any o q 11 (bL 24 992383) (a_0134 ga1 ga2) W:=by
     intro W ga1 ga2 HB HN HC1 HC2;simp only [a_0134,a_013,a_01,a_0,a_,a0,Act.put,zZ,zY,zX];refine zqt 7 20 rfl rfl ?_ ?_
     ·refine zqL (.string b1) rfl (.pointer (some ⟨ga1,z1,none⟩)) (E4 HC1.2.2) ?_;refine zqD 8 84 rfl rfl t1 b1 ?_;refine zqD 9 85 rfl rfl t2 (⟨#[62]⟩:fY) ?_;refine zqD 11 87 rfl rfl t3 rw_ ?_;refine zqD 12 88 rfl rfl t4 (⟨#[60,47]⟩:fY) ?_;refine zqD 14 90 rfl rfl t5 nm ?_;refine zqD 15 91 rfl rfl t6 (⟨#[62]⟩:fY) ?_;exact zqX (S01234 W ga1 ga2 HB HN HC2)
     ·refine zqL (.string b2) rfl (.pointer (some ⟨ga2,z2,none⟩)) (E4 HC2.2.2) ?_;exact zqX (S01345 W ga1 ga2 HB HN HC1)
    have S1345:∀ (W:World) (ga2:Nat),But g w W→Nums W g L (P+2)→wpAny prog .any o q 12 (bL 24 2040887) (a_1345 ga2) W:=by
     intro W ga2 HB HN;simp only [a_1345,a_134,a_13,a_1,a_,a0,Act.put,zZ,zY,zX];refine zqo 3 rfl ?_;refine X1 (Q5l rfl) ?_;refine zqI 6 82 (.pointer (some ⟨W.heap.size,z1,none⟩)) rfl rfl (.slice (some ⟨W.heap.size,0,none⟩) 2 2) (.int .i64 (z1:Int)) ?_;exact zqX (S01345 _ W.heap.size ga2 (HB.alloc _) (HN.alloc _) (hd.o W HN.lt))
    have S013:∀ (W:World) (ga1:Nat) (ga2:Nat),But g w W→Nums W g L (P+1)→CellK g W ga1 z1 b1→CellK g W ga2 z2 b2→wpAny prog .any o q 13 (bL 24 205951) (a_013 ga1 ga2) W:=by
     intro W ga1 ga2 HB HN HC1 HC2;simp only [a_013,a_01,a_0,a_,a0,Act.put,zZ,zY,zX];refine zqt 7 18 rfl rfl ?_ ?_
     ·refine zqL (.string b1) rfl (.pointer (some ⟨ga1,z1,none⟩)) (E4 HC1.2.2) ?_;refine zqD 8 84 rfl rfl t1 b1 ?_;refine zqD 9 85 rfl rfl t2 (⟨#[62]⟩:fY) ?_;refine zqD 11 87 rfl rfl t3 rw_ ?_;refine zqD 12 88 rfl rfl t4 (⟨#[60,47]⟩:fY) ?_;refine zqD 14 90 rfl rfl t5 nm ?_;refine zqD 15 91 rfl rfl t6 (⟨#[62]⟩:fY) ?_;exact zqX (S0123 W ga1 ga2 HB HN HC2)
     ·refine Q0s (.pointer (some ⟨g,0,none⟩)) (.int .i64 3) rfl func34 (CN2.o _ HN) ?_;rintro e w5 ⟨rfl,hb5,hn5⟩;refine ⟨.int .i64 (z2:Int),rfl,?_⟩;refine zqI 19 95 (.pointer (some ⟨ga2,z2,none⟩)) rfl rfl (.slice (some ⟨ga2,0,none⟩) 3 3) (.int .i64 (z2:Int)) ?_;exact zqX (S0134 w5 ga1 ga2 (HB.trans hb5) hn5 (HC1.but hb5) (HC2.but hb5))
    have S014:∀ (W:World) (ga1:Nat),But g w W→Nums W g L (P+2)→CellK g W ga1 z1 b1→wpAny prog .any o q 13 (bL 24 402559) (a_014 ga1) W:=by
     intro W ga1 HB HN HC1;simp only [a_014,a_01,a_0,a_,a0,Act.put,zZ,zY,zX];refine zqt 7 16 rfl rfl ?_ ?_
     ·refine zqL (.string b1) rfl (.pointer (some ⟨ga1,z1,none⟩)) (E4 HC1.2.2) ?_;refine zqD 8 84 rfl rfl t1 b1 ?_;refine zqD 9 85 rfl rfl t2 (⟨#[62]⟩:fY) ?_;refine zqD 11 87 rfl rfl t3 rw_ ?_;refine zqD 12 88 rfl rfl t4 (⟨#[60,47]⟩:fY) ?_;refine zqD 14 90 rfl rfl t5 nm ?_;refine zqD 15 91 rfl rfl t6 (⟨#[62]⟩:fY) ?_;exact zqX (S0124 W ga1 HB HN)
     ·refine X1 (Q3l rfl) ?_;refine zqI 19 95 (.pointer (some ⟨W.heap.size,z2,none⟩)) rfl rfl (.slice (some ⟨W.heap.size,0,none⟩) 3 3) (.int .i64 (z2:Int)) ?_;exact zqX (S0134 _ ga1 W.heap.size (HB.alloc _) (HN.alloc _) (HC1.alloc _) (ha.o W HN.lt))
    have S134:∀ (W:World) (ga2:Nat),But g w W→Nums W g L (P+2)→CellK g W ga2 z2 b2→wpAny prog .any o q 13 (bL 24 992311) (a_134 ga2) W:=by
     intro W ga2 HB HN HC2;simp only [a_134,a_13,a_1,a_,a0,Act.put,zZ,zY,zX];refine zqt 3 20 rfl rfl ?_ ?_
     ·refine X1 (Q5l rfl) ?_;refine zqI 6 82 (.pointer (some ⟨W.heap.size,z1,none⟩)) rfl rfl (.slice (some ⟨W.heap.size,0,none⟩) 2 2) (.int .i64 (z1:Int)) ?_;exact zqX (S0134 _ W.heap.size ga2 (HB.alloc _) (HN.alloc _) (hd.o W HN.lt) (HC2.alloc _))
     ·refine zqL (.string b2) rfl (.pointer (some ⟨ga2,z2,none⟩)) (E4 HC2.2.2) ?_;exact zqX (S1345 W ga2 HB HN)
    have S01:∀ (W:World) (ga1:Nat),But g w W→Nums W g L (P+1)→CellK g W ga1 z1 b1→wpAny prog .any o q 14 (bL 24 140415) (a_01 ga1) W:=by
     intro W ga1 HB HN HC1;simp only [a_01,a_0,a_,a0,Act.put,zZ,zY,zX];refine zqh 7 16 18 rfl rfl rfl ?_ ?_ ?_
     ·refine zqL (.string b1) rfl (.pointer (some ⟨ga1,z1,none⟩)) (E4 HC1.2.2) ?_;refine zqD 8 84 rfl rfl t1 b1 ?_;refine zqD 9 85 rfl rfl t2 (⟨#[62]⟩:fY) ?_;refine zqD 11 87 rfl rfl t3 rw_ ?_;refine zqD 12 88 rfl rfl t4 (⟨#[60,47]⟩:fY) ?_;refine zqD 14 90 rfl rfl t5 nm ?_;refine zqD 15 91 rfl rfl t6 (⟨#[62]⟩:fY) ?_;exact zqX (S012 W ga1 HB HN)
     ·refine X1 (Q3l rfl) ?_;exact zqX (S013 _ ga1 W.heap.size (HB.alloc _) (HN.alloc _) (HC1.alloc _) (ha.o W HN.lt))
     ·refine Q0s (.pointer (some ⟨g,0,none⟩)) (.int .i64 3) rfl func34 (CN2.o _ HN) ?_;rintro e w5 ⟨rfl,hb5,hn5⟩;refine ⟨.int .i64 (z2:Int),rfl,?_⟩;exact zqX (S014 w5 ga1 (HB.trans hb5) hn5 (HC1.but hb5))
    have S03:∀ (W:World) (ga1:Nat) (ga2:Nat),But g w W→Nums W g L (P+0)→CellK g W ga1 z1 b1→CellK g W ga2 z2 b2→wpAny prog .any o q 15 (bL 24 205855) (a_03 ga1 ga2) W:=by
     intro W ga1 ga2 HB HN HC1 HC2;simp only [a_03,a_0,a_,a0,Act.put,zZ,zY,zX];refine zqo 5 rfl ?_;refine Q0s (.pointer (some ⟨g,0,none⟩)) (.int .i64 2) rfl func34 (CN1.o _ HN) ?_;rintro e w5 ⟨rfl,hb5,hn5⟩;refine ⟨.int .i64 (z1:Int),rfl,?_⟩;refine zqI 6 82 (.pointer (some ⟨ga1,z1,none⟩)) rfl rfl (.slice (some ⟨ga1,0,none⟩) 2 2) (.int .i64 (z1:Int)) ?_;exact zqX (S013 w5 ga1 ga2 (HB.trans hb5) hn5 (HC1.but hb5) (HC2.but hb5))
    have S13:∀ (W:World) (ga2:Nat),But g w W→Nums W g L (P+1)→CellK g W ga2 z2 b2→wpAny prog .any o q 15 (bL 24 205879) (a_13 ga2) W:=by
     intro W ga2 HB HN HC2;simp only [a_13,a_1,a_,a0,Act.put,zZ,zY,zX];refine zqt 3 18 rfl rfl ?_ ?_
     ·refine X1 (Q5l rfl) ?_;refine zqI 6 82 (.pointer (some ⟨W.heap.size,z1,none⟩)) rfl rfl (.slice (some ⟨W.heap.size,0,none⟩) 2 2) (.int .i64 (z1:Int)) ?_;exact zqX (S013 _ W.heap.size ga2 (HB.alloc _) (HN.alloc _) (hd.o W HN.lt) (HC2.alloc _))
     ·refine Q0s (.pointer (some ⟨g,0,none⟩)) (.int .i64 3) rfl func34 (CN2.o _ HN) ?_;rintro e w5 ⟨rfl,hb5,hn5⟩;refine ⟨.int .i64 (z2:Int),rfl,?_⟩;refine zqI 19 95 (.pointer (some ⟨ga2,z2,none⟩)) rfl rfl (.slice (some ⟨ga2,0,none⟩) 3 3) (.int .i64 (z2:Int)) ?_;exact zqX (S134 w5 ga2 (HB.trans hb5) hn5 (HC2.but hb5))
    have S14:∀ (W:World),But g w W→Nums W g L (P+2)→wpAny prog .any o q 15 (bL 24 402487) a_14 W:=by
     intro W HB HN;simp only [a_14,a_1,a_,a0,Act.put,zZ,zY,zX];refine zqt 3 16 rfl rfl ?_ ?_
     ·refine X1 (Q5l rfl) ?_;refine zqI 6 82 (.pointer (some ⟨W.heap.size,z1,none⟩)) rfl rfl (.slice (some ⟨W.heap.size,0,none⟩) 2 2) (.int .i64 (z1:Int)) ?_;exact zqX (S014 _ W.heap.size (HB.alloc _) (HN.alloc _) (hd.o W HN.lt))
     ·refine X1 (Q3l rfl) ?_;refine zqI 19 95 (.pointer (some ⟨W.heap.size,z2,none⟩)) rfl rfl (.slice (some ⟨W.heap.size,0,none⟩) 3 3) (.int .i64 (z2:Int)) ?_;exact zqX (S134 _ W.heap.size (HB.alloc _) (HN.alloc _) (ha.o W HN.lt))
    have S0:∀ (W:World) (ga1:Nat),But g w W→Nums W g L (P+0)→CellK g W ga1 z1 b1→wpAny prog .any o q 16 (bL 24 140319) (a_0 ga1) W:=by
     intro W ga1 HB HN HC1;simp only [a_0,a_,a0,Act.put,zZ,zY,zX];refine zqt 5 16 rfl rfl ?_ ?_
     ·refine Q0s (.pointer (some ⟨g,0,none⟩)) (.int .i64 2) rfl func34 (CN1.o _ HN) ?_;rintro e w5 ⟨rfl,hb5,hn5⟩;refine ⟨.int .i64 (z1:Int),rfl,?_⟩;refine zqI 6 82 (.pointer (some ⟨ga1,z1,none⟩)) rfl rfl (.slice (some ⟨ga1,0,none⟩) 2 2) (.int .i64 (z1:Int)) ?_;exact zqX (S01 w5 ga1 (HB.trans hb5) hn5 (HC1.but hb5))
     ·refine X1 (Q3l rfl) ?_;exact zqX (S03 _ ga1 W.heap.size (HB.alloc _) (HN.alloc _) (HC1.alloc _) (ha.o W HN.lt))
    have S1:∀ (W:World),But g w W→Nums W g L (P+1)→wpAny prog .any o q 16 (bL 24 140343) a_1 W:=by
     intro W HB HN;simp only [a_1,a_,a0,Act.put,zZ,zY,zX];refine zqh 3 16 18 rfl rfl rfl ?_ ?_ ?_
     ·refine X1 (Q5l rfl) ?_;refine zqI 6 82 (.pointer (some ⟨W.heap.size,z1,none⟩)) rfl rfl (.slice (some ⟨W.heap.size,0,none⟩) 2 2) (.int .i64 (z1:Int)) ?_;exact zqX (S01 _ W.heap.size (HB.alloc _) (HN.alloc _) (hd.o W HN.lt))
     ·refine X1 (Q3l rfl) ?_;exact zqX (S13 _ W.heap.size (HB.alloc _) (HN.alloc _) (ha.o W HN.lt))
     ·refine Q0s (.pointer (some ⟨g,0,none⟩)) (.int .i64 3) rfl func34 (CN2.o _ HN) ?_;rintro e w5 ⟨rfl,hb5,hn5⟩;refine ⟨.int .i64 (z2:Int),rfl,?_⟩;exact zqX (S14 w5 (HB.trans hb5) hn5)
    have S3:∀ (W:World) (ga2:Nat),But g w W→Nums W g L (P+0)→CellK g W ga2 z2 b2→wpAny prog .any o q 16 (bL 24 205847) (a_3 ga2) W:=by
     intro W ga2 HB HN HC2;simp only [a_3,a_,a0,Act.put,zZ,zY,zX];refine zqt 3 5 rfl rfl ?_ ?_
     ·refine X1 (Q5l rfl) ?_;exact zqX (S03 _ W.heap.size ga2 (HB.alloc _) (HN.alloc _) (hd.o W HN.lt) (HC2.alloc _))
     ·refine Q0s (.pointer (some ⟨g,0,none⟩)) (.int .i64 2) rfl func34 (CN1.o _ HN) ?_;rintro e w5 ⟨rfl,hb5,hn5⟩;refine ⟨.int .i64 (z1:Int),rfl,?_⟩;exact zqX (S13 w5 ga2 (HB.trans hb5) hn5 (HC2.but hb5))
    have S:∀ (W:World),But g w W→Nums W g L (P+0)→wpAny prog .any o q 24 (bL 24 0) a0 W:=by
     intro W HB HN;simp only [a0,Act.put,zZ,zY,zX];refine zqM 0 76 (.string D) rfl ?_;refine zqM 1 77 (.string nm) rfl ?_;refine zqD 2 78 rfl rfl (⟨#[60]⟩:fY) nm ?_;refine zqM 4 80 (.pointer (some ⟨g,0,none⟩)) rfl ?_;refine zqM 10 86 (.string rw_) rfl ?_;refine zqM 13 89 (.string nm) rfl ?_;refine zqM 17 93 (.pointer (some ⟨g,0,none⟩)) rfl ?_;simp only [Act.put,zZ,zY,zX];refine zqh 3 5 16 rfl rfl rfl ?_ ?_ ?_
     ·refine X1 (Q5l rfl) ?_;exact zqX (S0 _ W.heap.size (HB.alloc _) (HN.alloc _) (hd.o W HN.lt))
     ·refine Q0s (.pointer (some ⟨g,0,none⟩)) (.int .i64 2) rfl func34 (CN1.o _ HN) ?_;rintro e w5 ⟨rfl,hb5,hn5⟩;refine ⟨.int .i64 (z1:Int),rfl,?_⟩;exact zqX (S1 w5 (HB.trans hb5) hn5)
     ·refine X1 (Q3l rfl) ?_;exact zqX (S3 _ W.heap.size (HB.alloc _) (HN.alloc _) (ha.o W HN.lt))
    have Z:=S _ hs.o ht.o;simp only [a0] at Z;exact Z
theorem Z5c {o:Oper} {a:Act} {w:World} (x y:Operand) (t:fY) (ho:o.op=.buildSlice 79 5 #[(0,.const (.string ⟨#[114,111,116]⟩)),(1,.const (.string ⟨#[100,97,115,32,65,117,116,111]⟩)),(2,.const (.string ⟨#[]⟩)),(3,x),(4,y)]) (hx:a.eval x=.string ((⟨#[101,105,110,32]⟩:fY)++t)) (hy:a.eval y=.string t):
 (execOp a.eval o).run prog w=.ok (.value (.slice (some ⟨w.heap.size,0,none⟩) 5 5)) (w.alloc (.cells #[.string ⟨#[114,111,116]⟩,.string ⟨#[100,97,115,32,65,117,116,111]⟩,.string ⟨#[]⟩,.string ((⟨#[101,105,110,32]⟩:fY)++t),.string t] 9)):=by
 have h0:a.eval (.const (.string ⟨#[114,111,116]⟩))=.string ⟨#[114,111,116]⟩:=rfl;have h1:a.eval (.const (.string ⟨#[100,97,115,32,65,117,116,111]⟩))=.string ⟨#[100,97,115,32,65,117,116,111]⟩:=rfl;have h2:a.eval (.const (.string ⟨#[]⟩))=.string ⟨#[]⟩:=rfl;generalize a.eval=ρ at hx hy h0 h1 h2 ⊢;unfold execOp;simp only [ho];go_simp
theorem V0u {o:Oper} {a:Act} {w:World} {K:Act→World→Prop} {Q:Exit→Act→World→Prop} (x y:Operand) (ho:o.op=.store 9 x y) (hd:o.dst=none) (b k:Nat) (s:fY) (hx:a.eval x=.pointer (some ⟨b,k,none⟩)) (hy:a.eval y=.string s) {v0:Value} (hc:w.cell? ⟨b,k,none⟩=some v0) (hf:w.frozen? ⟨b,k,none⟩=false)
 (h:K a (w.setCell ⟨b,k,none⟩ (.string s))):Oper.wp prog o a w K Q:=by
 have hr:(Instr.storeAt 9 (.pointer (some ⟨b,k,none⟩)) (.string s)).run prog w=.ok () (w.setCell ⟨b,k,none⟩ (.string s)):=yU;unfold Oper.wp execOp;simp only [ho,hx,hy,hr,dU,dN,eW];show K (a.put o.dst undef) _;rw [hd];exact h
theorem But.set_new {g q:Nat} {a w:World} (h:But g a w) (hq:a.heap.size≤q) (o:Nat) (u:Value):But g a (w.setCell ⟨q,o,none⟩ u):=
 ⟨h.os,h.tape,h.output,by have:=h.size;simpa [World.setCell] using this,fun k hk hn=>(aV _ _ _ _ (show k≠q by omega)).trans (h.block k hk hn)⟩
theorem Z3s (L:List Int) (g N:Nat) (src:List Tk) (A:Option Addr) (c:Nat) (w:World) (h:Nums w g L N) (hs:∀ W,But g w W→RdT W (.slice A src.length c) src) (hl:src.length≤400) (hb:X2 src≤20000) (hN:N≤1000000):
 Calls prog 21 #[.pointer (some ⟨g,0,none⟩),.slice A src.length c] w (Q0y g L (Q4 (K1 L src N).1,(K1 L src N).2) w):=by
 obtain ⟨R,hL⟩:∃ R,yK (R=Q0y g L (Q4 (K1 L src N).1,(K1 L src N).2) w):=⟨_,rfl⟩;rw [←hL.o];have HS:=zW hs;have hI:=zW h;have hF:=zW (But.refl g w);have HG:=h.lt;clear h hs;go_enter func21,ntmps21
 go_wp2_with fail
 go_loopg [5,10] src.length (fun gk fv iv wr=>∃ k:Nat,iv=.int .i64 (k:Nat)∧k≤src.length∧yK (OwnT 31 wr w.heap.size fv (Q4 (K1 L (src.take k) N).1))∧yK (But g w wr)∧yK (Nums wr g L (K1 L (src.take k) N).2)∧src.length - k≤gk)
 case atStart=>exact ⟨0,rfl,aO _,OwnE.nil,hF.o,hI.o,yQ⟩
 case round=>
  clear hF hI;obtain ⟨k,rfl,hk,HF,HB,HN,hgk⟩:=hrel;by_cases hlt:k < src.length
  ·obtain ⟨d1,d2,d3⟩:=X2z L (src.take k) N;have Hq:=X7a src k;have hR:=Y1f src k hlt;rw [bG] at d1 d2 d3;have hO:yK (K1 L (src.take (k+1)) N=((K1 L (src.take k) N).1++(K1 L [src[k]] (K1 L (src.take k) N).2).1,(K1 L [src[k]] (K1 L (src.take k) N).2).2)):=by
    show _=_;rw [aH hlt,X9x]
   obtain ⟨bs,os,hA,Hy,p1,p2,p3⟩:=RdT.at_ (HS.o _ HB.o) k hlt;subst hA;obtain ⟨Af,cf,Hr⟩:=Q0 HF.o;subst Hr;have Hu:=N0 (K1 L (src.take k) N).1;have hD:=Q1j (K1 L (src.take k) N).1;generalize K1 L (src.take k) N=U at *;obtain ⟨u,M⟩:=U;simp only at d1 d2 d3 Hu hD;generalize src[k]=x at *;obtain ⟨xk,xt,xd⟩:=x;simp only at p1 p2 p3 hR;have hM:M≤1100000:=yY;have HK:u.length≤800:=yY;have HJ:X2 u≤25000:=yY;have HL:xt.size≤20000:=yY;have Hx:yK (Q4 (Q4 u)=Q4 u):=B9 _ (N1 u);have ht:yK (∀ y,Q4 (Q4 u++[y])=Q4 (u++[y])):=X8p u;clear d1 d2 d3 Hq hR;obtain ⟨bk,hw⟩:∃ bk,yK ((xk==1)=bk):=⟨_,rfl⟩;have hx:=hw.o;have HH:(k:Int) < (src.length:Int):=yY;have he:=zW (HB.o.alloc (.cells #[.int .i64 xk,.string xt,.int .i64 xd] 31));have hh:=zW (HN.o.alloc (.cells #[.int .i64 xk,.string xt,.int .i64 xd] 31));have hc:=zW (aD HF.o (.cells #[.int .i64 xk,.string xt,.int .i64 xd] 31));have ha:yK ((wr.alloc (.cells #[.int .i64 xk,.string xt,.int .i64 xd] 31)).heap[wr.heap.size]? =some (.cells #[.int .i64 xk,.string xt,.int .i64 xd] 31)):=aY;have hJ:yK (∀ k,(Value.slice Af (Q4 u).length cf).ownBlock=some k→k≠wr.heap.size):=fun k hk e=>by have:=(HF.o.lt k hk).2;omega
   have hU:w.heap.size≤wr.heap.size:=HB.o.size;go_upto_region 6 with fail
   clear HB HN HF p1 p2 p3;have hd:wr.heap.size < (wr.alloc (.cells #[.int .i64 xk,.string xt,.int .i64 xd] 31)).heap.size:=yW;generalize wr.alloc (.cells #[.int .i64 xk,.string xt,.int .i64 xd] 31)=w1 at he hh hc ha hd ⊢;generalize wr.heap.size=q at ha hJ hU hd ⊢;have hq:q≠g:=yY;obtain ⟨x0,x1,x2,y0,y1,y2⟩:=T5 ha.o;go_upto_if 19 with fail
   clear hx;go_cut [5] (fun fv wx=>∃ (f:List Tk) (t':fY) (Ag:Option Addr) (cg:Nat),fv=.slice Ag f.length cg∧yK (OwnT 31 wx w.heap.size (.slice Ag f.length cg) f)∧yK (wx.heap[q]? =some (.cells #[.int .i64 xk,.string t',.int .i64 xd] 31))∧yK (Q4 (f++[⟨xk,t',xd⟩])=Q4 (u++(K1 L [⟨xk,xt,xd⟩] M).1))∧yK (But g w wx)∧yK (Nums wx g L (K1 L [⟨xk,xt,xd⟩] M).2)∧f.length≤u.length+1∧X2 f≤X2 u+12∧t'.size≤xt.size+8)
   case first=>
    cases bk with
    | true=>
      have hj:xk=1:=(by have:=hw.o;simpa using this);subst hj;have hz:=X5 L M 5 yX;have HU:yK (Q4 (Q4 u++[⟨1,Y3f xt (Q8 L M 5).toNat,xd⟩])=Q4 (u++(K1 L [⟨1,xt,xd⟩] M).1)):=by
       show _=_;rw [K1,aK rfl];exact ht.o _
      have Hd:yK ((K1 L [⟨1,xt,xd⟩] M).2=M+1):=(by show _=_;rw [K1,aK rfl];rfl);have CN:=zW (fun W h=>Z2 L g M 5 W h yY yX yX);generalize Q8 L M 5=zz at *;obtain ⟨z,rfl⟩:∃ z:Nat,zz=(z:Int):=⟨zz.toNat,yY⟩;rw [cH] at HU;have hE:z < 5:=yY;have HM:(z:Int) < 5:=yY;have hg:(0:Int)≤(z:Int):=yY;have Hw:=X0n xt z;let e1:fY:=(⟨#[101,105,110,32]⟩:fY)++xt
      have Ho:yK (∀ W:World,g < W.heap.size→CellK g (W.alloc (.cells #[.string ⟨#[114,111,116]⟩,.string ⟨#[100,97,115,32,65,117,116,111]⟩,.string ⟨#[]⟩,.string ((⟨#[101,105,110,32]⟩:fY)++xt),.string xt] 9)) W.heap.size z (Y3f xt z)):=fun W hW=>CellK.new W [⟨#[114,111,116]⟩,⟨#[100,97,115,32,65,117,116,111]⟩,⟨#[]⟩,(⟨#[101,105,110,32]⟩:fY)++xt,xt] 9 hW (by simpa using hE);have Hz:((⟨#[101,105,110,32]⟩:fY)++xt).size≤20004:=(by rw [bD];show 4+_≤_;omega);generalize Y3f xt z=wv at *;go_upto_region 7 with fail
      have hH:yK (But g w w1.drew):=he.o.drewN 1;have Hj:yK (Nums w1.drew g L M):=hh.o;have HX:yK (w1.drew.heap[q]? =some (.cells #[.int .i64 1,.string xt,.int .i64 xd] 31)):=ha.o;have hn:yK (OwnT 31 w1.drew w.heap.size (.slice Af (Q4 u).length cf) (Q4 u)):=hc.o;have hT:q < w1.drew.heap.size:=hd;clear he hh ha hc hd x0 x1 x2 y0 y1 y2;have hd:=hT;clear hT;refine zqR (l0:=bL 12 0) 12 kr ?_;show let oo:=_;let q0:=_;let a0:=_;wpAny prog _ oo q0 _ _ a0 _
      intro oo q0 a0;generalize w1.drew=w2 at *;have ha:=Ho;have x2:∀ W,But g w2 W→W.cell? ⟨q,1,none⟩=some (.string xt)∧W.frozen? ⟨q,1,none⟩=false:=fun W hW=>by
       have:=(hW.block q hd hq).trans HX.o;exact ⟨(T5 this).2.1,Y6 this 1⟩
      let a_:Act:=((a0.put (some 20) (.pointer (some ⟨q,1,none⟩))).put (some 23) (.pointer (some ⟨q,1,none⟩))).put (some 26) (.pointer (some ⟨g,0,none⟩))
      let a_0:Act:=(a_.put (some 21) (.string xt)).put (some 22) (.string e1)
      let a_1:Act:=a_.put (some 24) (.string xt)
      let a_3:Act:=a_.put (some 27) (.int .i64 (z:Int))
      let a_01:Act:=a_0.put (some 24) (.string xt)
      let a_03:Act:=a_0.put (some 27) (.int .i64 (z:Int))
      let a_13:Act:=a_1.put (some 27) (.int .i64 (z:Int))
      let a_012:Nat→Act:=fun ga=>a_01.put (some 25) (.slice (some ⟨ga,0,none⟩) 5 5)
      let a_013:Act:=a_01.put (some 27) (.int .i64 (z:Int))
      let a_0123:Nat→Act:=fun ga=>((a_012 ga).put (some 27) (.int .i64 (z:Int))).put (some 28) (.pointer (some ⟨ga,z,none⟩))
      let a_01234:Nat→Act:=fun ga=>((a_0123 ga).put (some 29) (.string wv)).put (some 30) (.pointer (some ⟨q,1,none⟩))
      have S012345:∀ (W:World) (ga:Nat),(∃ V,But g w2 V∧Nums V g L (M+1)∧W=V.setCell ⟨q,1,none⟩ (.string wv))→wpAny prog .any oo q0 0 (bL 12 4095) (a_01234 ga) W:=by
       intro W ga HE;simp only [a_01234,a_0123,a_012,a_01,a_0,a_,a0,Act.put,zZ,zY,zX];refine bW yZ ?_ _;obtain ⟨V,HB,HN,rfl⟩:=HE;simp only [q0];have hP:=(HB.block q hd hq).trans HX.o;have hY:=zW ((hH.o.trans HB).set_new hU 1 (.string wv));have Hg:=zW (HN.keepg (w':=V.setCell ⟨q,1,none⟩ (.string wv)) fun k hk=>aV _ _ _ _ (show k≠q by omega));have Hn : yK ((V.setCell ⟨q, 1, none⟩ (.string wv)).heap[q]? = some (.cells #[.int .i64 1, .string wv, .int .i64 xd] 31)) := by
           have:=D0 hP 1 (.string wv);exact this
       have Hb:=zW (Q7 hn.o (w':=V.setCell ⟨q,1,none⟩ (.string wv)) fun k hk=>(show (V.setCell ⟨q,1,none⟩ (.string wv)).heap[k]? =V.heap[k]? from aV _ _ _ _ (show k≠q from hJ.o k hk)).trans (HB.block k (hn.o.lt k hk).2 (by have:=(hn.o.lt k hk).1;omega)));clear HB HN hP HX hn hH;go_wp2_with fail
       go_meet
       exact ⟨Q4 u,wv,Af,cf,rfl,Hb.o,Hn.o,HU.o,hY.o,by rw [Hd.o];exact Hg.o,yY,yY,Hw⟩
      have S01234:∀ (W:World) (ga:Nat),But g w2 W→Nums W g L (M+1)→wpAny prog .any oo q0 1 (bL 12 2047) (a_01234 ga) W:=by
       intro W ga HB HN;simp only [a_01234,a_0123,a_012,a_01,a_0,a_,a0,Act.put,zZ,zY,zX];refine zqo 11 rfl ?_;refine V0u (.tmp 30) (.tmp 29) rfl rfl q 1 wv yZ yZ (x2 W HB).1 (x2 W HB).2 ?_;exact zqX (S012345 _ ga ⟨W,HB,HN,rfl⟩)
      have S0123:∀ (W:World) (ga:Nat),But g w2 W→Nums W g L (M+1)→CellK g W ga z wv→wpAny prog .any oo q0 3 (bL 12 511) (a_0123 ga) W:=by
       intro W ga HB HN HC;simp only [a_0123,a_012,a_01,a_0,a_,a0,Act.put,zZ,zY,zX];refine zqo 9 rfl ?_;refine zqL (.string wv) rfl (.pointer (some ⟨ga,z,none⟩)) (D8 HC.2.2) ?_;refine zqF 10 30 (.pointer (some ⟨q,1,none⟩)) rfl rfl (.pointer (some ⟨q,0,none⟩)) ?_;exact zqX (S01234 W ga HB HN)
      have S012:∀ (W:World) (ga:Nat),But g w2 W→Nums W g L (M+0)→CellK g W ga z wv→wpAny prog .any oo q0 5 (bL 12 127) (a_012 ga) W:=by
       intro W ga HB HN HC;simp only [a_012,a_01,a_0,a_,a0,Act.put,zZ,zY,zX];refine zqo 7 rfl ?_;refine Q0s (.pointer (some ⟨g,0,none⟩)) (.int .i64 5) rfl func34 (CN.o _ HN) ?_;rintro e w5 ⟨rfl,hb5,hn5⟩;refine ⟨.int .i64 (z:Int),rfl,?_⟩;refine zqI 8 28 (.pointer (some ⟨ga,z,none⟩)) rfl rfl (.slice (some ⟨ga,0,none⟩) 5 5) (.int .i64 (z:Int)) ?_;exact zqX (S0123 w5 ga (HB.trans hb5) hn5 (HC.but hb5))
      have S013:∀ (W:World),But g w2 W→Nums W g L (M+1)→wpAny prog .any oo q0 5 (bL 12 223) a_013 W:=by
       intro W HB HN;simp only [a_013,a_01,a_0,a_,a0,Act.put,zZ,zY,zX];refine zqo 5 rfl ?_;refine X1 (Z5c (.tmp 22) (.tmp 24) xt rfl yZ yZ) ?_;refine zqI 8 28 (.pointer (some ⟨W.heap.size,z,none⟩)) rfl rfl (.slice (some ⟨W.heap.size,0,none⟩) 5 5) (.int .i64 (z:Int)) ?_;exact zqX (S0123 _ W.heap.size (HB.alloc _) (HN.alloc _) (ha.o W HN.lt))
      have S01:∀ (W:World),But g w2 W→Nums W g L (M+0)→wpAny prog .any oo q0 6 (bL 12 95) a_01 W:=by
       intro W HB HN;simp only [a_01,a_0,a_,a0,Act.put,zZ,zY,zX];refine zqt 5 7 rfl rfl ?_ ?_
       ·refine X1 (Z5c (.tmp 22) (.tmp 24) xt rfl yZ yZ) ?_;exact zqX (S012 _ W.heap.size (HB.alloc _) (HN.alloc _) (ha.o W HN.lt))
       ·refine Q0s (.pointer (some ⟨g,0,none⟩)) (.int .i64 5) rfl func34 (CN.o _ HN) ?_;rintro e w5 ⟨rfl,hb5,hn5⟩;refine ⟨.int .i64 (z:Int),rfl,?_⟩;exact zqX (S013 w5 (HB.trans hb5) hn5)
      have S03:∀ (W:World),But g w2 W→Nums W g L (M+1)→wpAny prog .any oo q0 6 (bL 12 207) a_03 W:=by
       intro W HB HN;simp only [a_03,a_0,a_,a0,Act.put,zZ,zY,zX];refine zqo 4 rfl ?_;refine zqL (.string xt) rfl (.pointer (some ⟨q,1,none⟩)) (D8 (x2 W HB).1) ?_;exact zqX (S013 W HB HN)
      have S0:∀ (W:World),But g w2 W→Nums W g L (M+0)→wpAny prog .any oo q0 7 (bL 12 79) a_0 W:=by
       intro W HB HN;simp only [a_0,a_,a0,Act.put,zZ,zY,zX];refine zqt 4 7 rfl rfl ?_ ?_
       ·refine zqL (.string xt) rfl (.pointer (some ⟨q,1,none⟩)) (D8 (x2 W HB).1) ?_;exact zqX (S01 W HB HN)
       ·refine Q0s (.pointer (some ⟨g,0,none⟩)) (.int .i64 5) rfl func34 (CN.o _ HN) ?_;rintro e w5 ⟨rfl,hb5,hn5⟩;refine ⟨.int .i64 (z:Int),rfl,?_⟩;exact zqX (S03 w5 (HB.trans hb5) hn5)
      have S13:∀ (W:World),But g w2 W→Nums W g L (M+1)→wpAny prog .any oo q0 7 (bL 12 217) a_13 W:=by
       intro W HB HN;simp only [a_13,a_1,a_,a0,Act.put,zZ,zY,zX];refine zqo 1 rfl ?_;refine zqL (.string xt) rfl (.pointer (some ⟨q,1,none⟩)) (D8 (x2 W HB).1) ?_;refine zqD 2 22 rfl rfl (⟨#[101,105,110,32]⟩:fY) xt ?_;exact zqX (S013 W HB HN)
      have S1:∀ (W:World),But g w2 W→Nums W g L (M+0)→wpAny prog .any oo q0 8 (bL 12 89) a_1 W:=by
       intro W HB HN;simp only [a_1,a_,a0,Act.put,zZ,zY,zX];refine zqt 1 7 rfl rfl ?_ ?_
       ·refine zqL (.string xt) rfl (.pointer (some ⟨q,1,none⟩)) (D8 (x2 W HB).1) ?_;refine zqD 2 22 rfl rfl (⟨#[101,105,110,32]⟩:fY) xt ?_;exact zqX (S01 W HB HN)
       ·refine Q0s (.pointer (some ⟨g,0,none⟩)) (.int .i64 5) rfl func34 (CN.o _ HN) ?_;rintro e w5 ⟨rfl,hb5,hn5⟩;refine ⟨.int .i64 (z:Int),rfl,?_⟩;exact zqX (S13 w5 (HB.trans hb5) hn5)
      have S3:∀ (W:World),But g w2 W→Nums W g L (M+1)→wpAny prog .any oo q0 8 (bL 12 201) a_3 W:=by
       intro W HB HN;simp only [a_3,a_,a0,Act.put,zZ,zY,zX];refine zqt 1 4 rfl rfl ?_ ?_
       ·refine zqL (.string xt) rfl (.pointer (some ⟨q,1,none⟩)) (D8 (x2 W HB).1) ?_;refine zqD 2 22 rfl rfl (⟨#[101,105,110,32]⟩:fY) xt ?_;exact zqX (S03 W HB HN)
       ·refine zqL (.string xt) rfl (.pointer (some ⟨q,1,none⟩)) (D8 (x2 W HB).1) ?_;exact zqX (S13 W HB HN)
      have S:∀ (W:World),But g w2 W→Nums W g L (M+0)→wpAny prog .any oo q0 12 (bL 12 0) a0 W:=by
       intro W HB HN;simp only [a0,Act.put,zZ,zY,zX];refine zqF 0 20 (.pointer (some ⟨q,1,none⟩)) rfl rfl (.pointer (some ⟨q,0,none⟩)) ?_;refine zqF 3 23 (.pointer (some ⟨q,1,none⟩)) rfl rfl (.pointer (some ⟨q,0,none⟩)) ?_;refine zqM 6 26 (.pointer (some ⟨g,0,none⟩)) rfl ?_;simp only [Act.put,zZ,zY,zX];refine zqh 1 4 7 rfl rfl rfl ?_ ?_ ?_
       ·refine zqL (.string xt) rfl (.pointer (some ⟨q,1,none⟩)) (D8 (x2 W HB).1) ?_;refine zqD 2 22 rfl rfl (⟨#[101,105,110,32]⟩:fY) xt ?_;exact zqX (S0 W HB HN)
       ·refine zqL (.string xt) rfl (.pointer (some ⟨q,1,none⟩)) (D8 (x2 W HB).1) ?_;exact zqX (S1 W HB HN)
       ·refine Q0s (.pointer (some ⟨g,0,none⟩)) (.int .i64 5) rfl func34 (CN.o _ HN) ?_;rintro e w5 ⟨rfl,hb5,hn5⟩;refine ⟨.int .i64 (z:Int),rfl,?_⟩;exact zqX (S3 w5 (HB.trans hb5) hn5)
      exact S _ (But.refl g w2) Hj.o
    | false=>
      have hj:¬ xk=1:=(by have:=hw.o;simpa using this);have hz:=X5 L M 3 yX;have CN:=zW (Z2 L g M 3 w1 hh.o yY yX yX);have hu:yK (Q8 L M 3=0→K1 L [⟨xk,xt,xd⟩] M=([⟨1,(J3 L (M+1) 2).1,0⟩,⟨xk,xt,xd⟩],(J3 L (M+1) 2).2)):=fun e=>by rw [K1,aE hj,aK e];rfl
      have hv:yK (¬ Q8 L M 3=0→K1 L [⟨xk,xt,xd⟩] M=([⟨xk,xt,xd⟩],M+1)):=fun e=>by rw [K1,aE hj,aE e];rfl
      generalize Q8 L M 3=z at *;generalize htu:K1 L [⟨xk,xt,xd⟩] M=TU at *;clear htu hj;by_cases hg:z=0
      ·have hC:=Q4k L (M+1) 2 yX;have e:=hu.o hg;have CL:=zW (fun W h=>X4d L g (M+1) 2 W h yY yX yX);generalize J3 L (M+1) 2=ln at *;obtain ⟨lt,LM⟩:=ln;simp only at e hC CL;subst e hg;have Ht:lt.size≤12:=hC.1;have Hm : yK (Q4 (Q4 (Q4 u ++ [⟨1, lt, 0⟩]) ++ [⟨xk, xt, xd⟩]) = Q4 (u ++ [⟨1, lt, 0⟩, ⟨xk, xt, xd⟩])) := by
           show _=_;rw [ht.o,X8p,aZ];rfl
       have hy : (Q4 (Q4 u ++ [⟨1, lt, 0⟩])).length ≤ u.length + 1 := by
           have:=N0 (Q4 u++[⟨1,lt,0⟩]);rw [aA,bZ] at this;omega
       have Hs : X2 (Q4 (Q4 u ++ [⟨1, lt, 0⟩])) ≤ X2 u + 12 := by
           rw [Q1j,J7,hD];show _+(lt.size+0)≤_;omega
       clear hu hv hC;go_wp2_with (first
           | (go_at_call 34;refine (CN.o).mono ?_;rintro e w3 ⟨rfl,hf,ho⟩;have hV:=zW hf;have He:=zW ho;clear hf ho)
           | (go_at_call 35;refine (CL.o _ (by exact He.o)).mono ?_;rintro e w4 ⟨rfl,hQ,hS⟩;have hX:=zW (hV.o.trans hQ);have Hf:=zW (hS.alloc (.cells #[.int .i64 1,.string lt,.int .i64 0] 31));have hr:=zW (hX.o.alloc (.cells #[.int .i64 1,.string lt,.int .i64 0] 31));have Hk:yK (RdT (w4.alloc (.cells #[.int .i64 1,.string lt,.int .i64 0] 31)) (.slice (some ⟨w4.heap.size,0,none⟩) 1 1) [⟨1,lt,0⟩]):=Z3 tkC 3 Q5 w4 _ rfl (⟨1,lt,0⟩:Tk) _;have hZ:=zW (Q7 hc.o (w':=w4.alloc (.cells #[.int .i64 1,.string lt,.int .i64 0] 31)) fun k hk=>hr.o.block k (hc.o.lt k hk).2 (by have:=(hc.o.lt k hk).1;omega));clear hQ hS)
           | (go_at_call 8;refine (Q1o (Q4 u) [⟨1,lt,0⟩] _ _ _ (by exact OwnE.rd Q5 hZ.o) (by exact Hk.o) yV (by rw [hD];show _+(lt.size+0)≤_;omega)).mono ?_;rintro e w6 ⟨v6,rfl,hp,hi⟩;have hK:=zW hp;have hm:=zW hi;clear hp hi))
       obtain ⟨Ag,cg,Hv⟩:=Q0 hK.o;subst Hv;go_meet
       have hE:=hr.o.size;have hB:But g w1 w6:=hr.o.trans (But.of_below hm.o);refine ⟨_,xt,Ag,cg,rfl,Y3 hK.o (by have:=hB.size;have:=he.o.size;omega),(hB.block q hd hq).trans ha.o,Hm.o,he.o.trans hB,Hf.o.keep fun k hk=>hm.o.block k hk,hy,Hs,yY⟩
      ·have e:=hv.o hg;subst e;have t0:(z==0)=false:=(by simpa using hg);clear hu hv hg;go_wp2_with (go_at_call 34;refine (CN.o).mono ?_;rintro e w3 ⟨rfl,hf,ho⟩)
       go_meet
       exact ⟨Q4 u,xt,Af,cf,rfl,Q7 hc.o fun k hk=>hf.block k (hc.o.lt k hk).2 (by have:=(hc.o.lt k hk).1;omega),(hf.block q hd hq).trans ha.o,ht.o _,he.o.trans hf,ho,yY,yY,yY⟩
   case rest=>
    obtain ⟨f,t',Ag,cg,rfl,Hc,Hp,Hi,hG,Hh,HD,HA,HI⟩:=hcut;clear he hh hc ha hd x0 x1 x2 y0 y1 y2;generalize wc=w5 at *;rename_i w5;obtain ⟨x0,x1,x2,y0,y1,y2⟩:=T5 Hp.o;have Ha:=zW (aD Hc.o (.cells #[.int .i64 xk,.string t',.int .i64 xd] 31));have Hl:yK (RdT (w5.alloc (.cells #[.int .i64 xk,.string t',.int .i64 xd] 31)) (.slice (some ⟨w5.heap.size,0,none⟩) 1 1) [⟨xk,t',xd⟩]):=Z3 tkC 3 Q5 w5 _ rfl (⟨xk,t',xd⟩:Tk) _;have CC:=zW (Q1o f [⟨xk,t',xd⟩] _ _ _ (OwnE.rd Q5 Ha.o) Hl.o yV (by show _+(t'.size+0)≤_;omega));rw [Hi.o] at CC;have hE:=hG.o.size;go_wp2_with (go_at_call 8;refine (CC.o).mono ?_;rintro e w6 ⟨v6,rfl,hp,hi⟩)
    have hm:But g w w6:=(hG.o.alloc _).trans (But.of_below hi);go_roundg (src.length - (k+1))
    case measure=>omega
    case rel=>exact ⟨k+1,by go_num,hlt,by rw [hO.o];exact Y3 hp yV,hm,by rw [hO.o];exact (Hh.o.alloc _).keep fun k hk=>hi.block k hk,yQ⟩
  ·obtain rfl:k=src.length:=yY;rw [aW] at HF HN;go_wp2_with fail
   rw [hL.o];exact ⟨_,rfl,HF.o,HB.o,HN.o⟩
structure TtP (B:Nat) (w:World) (v:Value) (L:List (List Tk)) (ys:List Tv):Prop where
 own:OwnE 24 tvC 1 w B v ys
 eq:ys.map (·.t)=L
 each:∀ y∈ys,OwnT 31 w B y.v y.t
section
variable {B:Nat} {w w':World} {v v':Value} {L:List (List Tk)} {ys:List Tv}
theorem TtP.nil:TtP B w (.slice none 0 0) [] []:=⟨OwnE.nil,rfl,fun _ h=>by simp at h⟩
theorem TtP.len (h:TtP B w v L ys):ys.length=L.length:=by rw [←h.eq,bA]
theorem TtP.same (h:TtP B w v L ys) (hk:∀ k,B≤k→k < w.heap.size→w'.heap[k]? =w.heap[k]?):TtP B w' v L ys:=
 ⟨Q7 h.own fun k he=>hk k (h.own.lt k he).1 (h.own.lt k he).2,h.eq,fun y hy=>Q7 (h.each y hy) fun k he=>hk k ((h.each y hy).lt k he).1 ((h.each y hy).lt k he).2⟩
theorem TtP.but {g:Nat} (h:TtP B w v L ys) (hb:But g w w') (hg:g < B):TtP B w' v L ys:=h.same fun k h1 h2=>hb.block k h2 yY
theorem TtP.push (h:TtP B w v L ys) (y:Tv) (hy:OwnT 31 w B y.v y.t) (ho:OwnE 24 tvC 1 w' B v' (ys++[y])) (hg:w.grownBy w' v.ownBlock):TtP B w' v' (L++[y.t]) (ys++[y]):=by
 have keep:∀ z:Tv,OwnT 31 w B z.v z.t→OwnT 31 w' B z.v z.t:=fun z hz=>Q7 hz fun k hk=>hg.block k (hz.lt k hk).2 (fun e=>by
  obtain ⟨cur,hc⟩:=P3 h.own e.symm;exact Y1 hz hc yX k hk rfl)
 refine ⟨ho,by rw [cP,h.eq];rfl,fun z hz=>?_⟩;rcases aS.1 hz with hz | hz
 ·exact keep z (h.each z hz)
 ·rw [aJ.1 hz];exact keep y hy
theorem TtP.other (h:TtP B w v L ys) (hg:w.grownBy w' v.ownBlock) {α:Type} {e:TypeId} {f:α→List Value} {m B':Nat} {u:Value} {l:List α} (ho:OwnE e f m w B' u l) (hne:24≠e):OwnE e f m w' B' u l:=
 Q7 ho fun k hk=>hg.block k (ho.lt k hk).2 (fun e=>by
  obtain ⟨cur,hc⟩:=P3 h.own e.symm;exact Y1 ho hc hne k hk rfl)
theorem TtP.rd (h:TtP B w v L ys):RdTT w v L:=TtO.rd (W0:=w) ⟨h.own,h.eq,fun y hy=>(h.each y hy).rd Q5⟩ (aB _ _)
theorem TtP.numsG (h:TtP B w v L ys) (hg:w.grownBy w' v.ownBlock) {g N:Nat} {M:List Int} (hn:Nums w g M N) (hgB:g < B):Nums w' g M N:=hn.keepg fun k hk=>hg.block k (by have:=hn.lt;omega) (fun e=>by
 have:=(h.own.lt k e.symm).1;omega)
theorem U0y {g:Nat} {w0:World} (hb:But g w0 w) (hbel:Below w0.heap.size w w'):But g w0 w':=
 ⟨hbel.os.trans hb.os,hbel.tape.trans hb.tape,hbel.output.trans hb.output,aP hb.size hbel.size,fun i hi hn=>(hbel.block i hi).trans (hb.block i hi hn)⟩
end
theorem V8w {B g:Nat} {w w':World} {α:Type} {e:TypeId} {f:α→List Value} {m:Nat} {v:Value} {l:List α} (h:OwnE e f m w B v l) (hb:But g w w') (hg:g < B):OwnE e f m w' B v l:=Q7 h fun k hk=>hb.block k (h.lt k hk).2 (by have:=(h.lt k hk).1;omega)
def CutV (B:Nat) (w:World) (k:Nat) (PP:List Pc) (cf:Nat→Nat) (v:Value):Prop:=
 (∀ p∈PP,p.pt≠k)∨∃ (zs:List Int) (A:Option Addr) (c:Nat),v=.slice A zs.length c∧OwnE 3 V7 1 w B (.slice A zs.length c) zs∧zs.length≤1000∧∀ p∈PP,p.pt=k→p.lo < zs.length∧p.hi < zs.length∧zs[p.lo]? =some (cf p.lo:Nat)∧zs[p.hi]? =some (cf p.hi:Nat)
theorem X0b (k:Nat):∀ (l:List Pc) (T:List (List Tk)),(∀ p∈l,p.pt≠k)→V4 k l=[]∧K7 k l T=[]
 | [],_,_=>⟨rfl,rfl⟩
 | p::l,[],h=>by
   rw [V4,aE (h p yW)];exact ⟨(X0b k l [] fun q hq=>h q (by simp [hq])).1,rfl⟩
 | p::l,t::T,h=>by
   rw [V4,K7,aE (h p yW),aE (h p yW)];exact X0b k l T fun q hq=>h q (by simp [hq])
theorem V4i (fmt:Int) (hf:D1 fmt) (k:Nat) (PP:List Pc) (T:List (List Tk)) (hl:PP.length=T.length) (raw raw':fY) (h:U0l fmt k PP T raw raw'):
 ∃ cf,sgs fmt raw.data.toList cf 0 (V4 k PP) (K7 k PP T)=raw'.data.toList∧V1d cf raw.data.toList.length 0 (V4 k PP)∧
  ∀ W,Calls prog 20 #[.int .i64 fmt,.string raw] W (fun e w'=>∃ a v b c,e=.returned (.tuple #[a,v,b,c])∧CutV W.heap.size w' k PP cf v∧Below W.heap.size W w'):=by
 obtain ⟨hc,⟨h1,h2,h3⟩ | ⟨ts,h1,h2,h3,h4,h5⟩⟩:=h
 ·obtain ⟨e1,e2⟩:=X0b k PP T h2;refine ⟨fun _=>0,?_,?_,fun W=>(V0i fmt hf raw h1 hc W).mono ?_⟩
  ·rw [e1,e2,h3];rfl
  ·rw [e1];trivial
  ·rintro e w' ⟨a,b,c,d,he,hb⟩;exact ⟨a,b,c,d,he,.inl h2,hb⟩
 ·have hg:(V4 k PP).length=(K7 k PP T).length:=AllT.len (AllP.pick k (X3h PP T hl));obtain ⟨g1,g2⟩:=Z6v fmt ts (V4 k PP) (K7 k PP T) 0 _ h4 hg;have hd:cfE ts 0=0:=by unfold cfE;cases ts<;>rfl
  rw [hd] at g1 g2;refine ⟨cfE ts,by rw [h2,h3];exact g1.symm,by rw [h2];exact g2,fun W=>(X2k fmt hf raw ts W h1 h2 hc).mono ?_⟩;rintro e w' ⟨v,vc,he,_,hoc,hb⟩;obtain ⟨A,c,hh⟩:=Q0 hoc;subst hh;have hj:(Q9r ts).length=(Z0u ts).length:=(by rw [Y3q,bA]);have ha:∀ p,p≤(X0 ts).length→p < (Q9r ts).length∧(Q9r ts)[p]? =some ((cfE ts p:Nat):Int):=fun p hp=>by
   have e:=Z4e ts p hp;have hi:=(aM.1 e).1;refine ⟨yY,?_⟩;rw [Y3q,cE,e];rfl
  refine ⟨_,_,_,_,he,.inr ⟨Q9r ts,A,c,rfl,hoc,?_,fun p hp hk=>?_⟩,hb⟩
  ·have:(Z0u ts).length=(X0 ts).length+1:=(by unfold Z0u;rw [aA,X0y];rfl);have:=h1.len;omega
  ·obtain ⟨q1,q2⟩:=h5 p hp hk;exact ⟨(ha _ q1).1,(ha _ q2).1,(ha _ q1).2,(ha _ q2).2⟩
theorem CutV.base {B B':Nat} {w:World} {k:Nat} {PP:List Pc} {cf:Nat→Nat} {v:Value} (h:CutV B w k PP cf v) (hB:B'≤B):CutV B' w k PP cf v:=by
 rcases h with h | ⟨zs,A,c,h1,h2,h3⟩
 ·exact .inl h
 ·exact .inr ⟨zs,A,c,h1,Y3 h2 hB,h3⟩
theorem U3q (b o n ln c8:Nat) (h:n < ln) (w:World):(Instr.indexAt 48 (.slice (some ⟨b,o,none⟩) ln c8) (.int .i64 (n:Nat))).run prog w=.ok (.pointer (some ⟨b,o+n,none⟩)) w:=by
 have h1:(n:Int) < (ln:Int):=yY;go_simp
theorem U2j (x y:Operand) (n ln:Nat) (h:ln=n+1) (h4:n≤400) (w:World):(do eqGuard .sub 3 x y (.int .i64 (ln:Nat)) (.int .i64 1);Go.binOp .sub 3 (.int .i64 (ln:Nat)) (.int .i64 1):Sem Value).run prog w=.ok (.int .i64 (n:Nat)) w:=by
 subst h;go_simp;rw [cQ];omega
theorem Q7l (r:Nat×Nat):∀ u∈Y9 r,u.oneCell'=true:=by
 intro u hu;simp [Y9] at hu;rcases hu with rfl | rfl<;>rfl
theorem X6k {α:Type} (f:α→List Value) {m:Nat} (x:α) {w:World} {g:Nat} {t:TypeId} (h:w.heap[g]? =some (.cells (f x).toArray t)):RdE f m w (.slice (some ⟨g,0,none⟩) 1 1) [x]:=by
 refine ⟨some ⟨g,0,none⟩,1,rfl,by simp,(fun h=>by cases h),fun _=>⟨g,0,rfl,J5 h,fun i y j u hi hj=>?_⟩⟩;have ha:i=0:=by
  have:=(aM.1 hi).1;simpa using this
 subst ha;injection hi with hi;subst hi;rw [show 0+(0 * m+j)=j by omega,bV _ _ j _ _ _ h];simpa using hj
theorem Z1w {w:World} {b:Nat} {v0 v3:Value} {lo hi:Int} {t:TypeId} (h:w.heap[b]? =some (.cells #[v0,.int .i64 lo,.int .i64 hi,v3] t)):(Instr.loadAt 54 (.pointer (some ⟨b,1,none⟩))).run prog w=.ok (.agg #[.int .i64 lo,.int .i64 hi]) w:=by
 have h1:w.cell? ⟨b,1,none⟩=some (.int .i64 lo):=(by rw [bV _ _ 1 _ _ _ h];rfl);have h2:w.cell? ⟨b,2,none⟩=some (.int .i64 hi):=(by rw [bV _ _ 2 _ _ _ h];rfl);go_simp
theorem Z1l {o:Oper} {a:Act} {w:World} (x:Operand) (ho:o.op=.buildSlice 72 1 #[(0,x)]) (lo hi:Int) (hx:a.eval x=.agg #[.int .i64 lo,.int .i64 hi]):(execOp a.eval o).run prog w=.ok (.value (.slice (some ⟨w.heap.size,0,none⟩) 1 1)) (w.alloc (.cells #[.int .i64 lo,.int .i64 hi] 54)):=by
 generalize a.eval=ρ at hx ⊢;unfold execOp;simp only [ho];go_simp
theorem Y3w {o:Oper} {a:Act} {w:World} (x:Operand) (ho:o.op=.buildSlice 48 1 #[(0,x)]) (A:Option Addr) (n c:Nat) (hx:a.eval x=.slice A n c):(execOp a.eval o).run prog w=.ok (.value (.slice (some ⟨w.heap.size,0,none⟩) 1 1)) (w.alloc (.cells #[.slice A n c] 24)):=by
 generalize a.eval=ρ at hx ⊢;unfold execOp;simp only [ho];go_simp
def KeepP (g:Nat) (w:World) (v:Value) (ps:List Pt):Prop:=∀ w':World,w.heap.size≤w'.heap.size→(∀ k,k < w.heap.size→k≠g→k≠g+1→w'.heap[k]? =w.heap[k]?)→RdE ptC 3 w' v ps
theorem KeepP.old {g:Nat} {w w2:World} {v:Value} {ps:List Pt} (h:RdE ptC 3 w v ps) (hb:Below w.heap.size w w2) (hg:g=w.heap.size):KeepP g w2 v ps:=fun w' hs hk=>
 h.keep (aP hb.size hs) fun b ha=>(hk b (bC ha hb.size) yY yY).trans (hb.block b ha)
theorem KeepP.new {g B:Nat} {w w2:World} {v:Value} {ps:List Pt} (h:OwnE 52 ptC 3 w B v ps) (hB:g+1 < B) (hs:w.heap.size≤w2.heap.size) (hk:∀ k,k < w.heap.size→k≠g→k≠g+1→w2.heap[k]? =w.heap[k]?):KeepP g w2 v ps:=fun w' hc ha=>
 OwnE.rd D3 (Q7 h fun k hb=>by
  have:=h.lt k hb;exact (ha k yY yY yY).trans (hk k yY yY yY))
theorem X9z (m fmt:Int) (ps pe:List Pt) (l:List Pc) (T:List (List Tk)) (K:List Nat) (hK:D5 ps 0=K.map fun (k:Nat)=>(k:Int)) (htr:Z0t m fmt l T K ps pe) (hl:l.length=T.length) (hl2:l.length≤1000000) (hps:ps.length≤100000) (A A1 A2:Option Addr) (c c1 c2:Nat) (w:World) (hm:w.cell? ⟨0,0,none⟩=some (.int .i64 m)) (hp:RdE ptC 3 w (.slice A ps.length c) ps) (hpc:RdPc w (.slice A1 l.length c1) l) (hT:RdTT w (.slice A2 T.length c2) T):
 Calls prog 23 #[.agg #[.int .i64 fmt,.slice A ps.length c],.slice A1 l.length c1,.slice A2 T.length c2] w (fun e w'=>∃ A' c',e=.returned (.tuple #[.agg #[.int .i64 fmt,.slice A' pe.length c'],.bool true])∧RdE ptC 3 w' (.slice A' pe.length c') pe∧Below w.heap.size w w'):=by
 obtain ⟨R,He⟩:∃ R:Ending→World→Prop,yK (R=fun e w'=>∃ A' c',e=.returned (.tuple #[.agg #[.int .i64 fmt,.slice A' pe.length c'],.bool true])∧RdE ptC 3 w' (.slice A' pe.length c') pe∧Below w.heap.size w w'):=⟨_,rfl⟩;rw [←He.o];have CU:=zW (fun W (hW:Below w.heap.size w W)=>Y3b fmt ps A c W (hp.below hW yQ) yY);rw [hK] at CU;have HH:K.length≤100000:=by
  have:=Q5z ps 0;rw [hK,bA] at this;omega
 have HP:=zW hp;have Hp:=zW hpc;have HT:=zW hT;have hq:=zW htr;have HM:=zW hm;have hw:=zW (((aB w.heap.size w).alloc yQ (.cells #[.int .i64 fmt,.slice A ps.length c] 41)).alloc yW (.cells #[.int .i64 0,.slice none 0 0] 41));have hC:yK (((w.alloc (.cells #[.int .i64 fmt,.slice A ps.length c] 41)).alloc (.cells #[.int .i64 0,.slice none 0 0] 41)).heap[w.heap.size]? =some (.cells #[.int .i64 fmt,.slice A ps.length c] 41)):=(bE _ _ _ yW).trans (aT w _);have hD:yK (((w.alloc (.cells #[.int .i64 fmt,.slice A ps.length c] 41)).alloc (.cells #[.int .i64 0,.slice none 0 0] 41)).heap[w.heap.size+1]? =some (.cells #[.int .i64 0,.slice none 0 0] 41)):=by
  have:=aT (w.alloc (.cells #[.int .i64 fmt,.slice A ps.length c] 41)) (.cells #[.int .i64 0,.slice none 0 0] 41);show _=_;simpa using this
 clear hp hpc hT htr hm hK;go_enter func23,ntmps23
 go_upto_region 1 with fail
 generalize (w.alloc (.cells #[.int .i64 fmt,.slice A ps.length c] 41)).alloc (.cells #[.int .i64 0,.slice none 0 0] 41)=w1 at hw hC hD ⊢;obtain ⟨g,hg⟩:∃ g,yK (g=w.heap.size):=⟨_,rfl⟩;rw [←hg.o] at hC hD ⊢;have Hx:g+1 < w1.heap.size:=J5 hD.o;obtain ⟨d0,d1,_,_⟩:=bx2 hC.o;go_upto_region 2 with (go_at_call 26;refine (CU.o _ (by exact hw.o)).mono ?_;rintro e w2 ⟨vu,rfl,hV,Hi⟩;have hh:=zW hV;have hH:=zW Hi;obtain ⟨Au,cu,Ho⟩:=Q0 hV;rw [bA] at Ho;subst Ho;clear hV Hi)
 have hu:=zW ((hH.o.block g yY).trans hC.o);have hv:=zW ((hH.o.block (g+1) Hx).trans hD.o);have hd:=zW (hw.o.trans (hH.o.mono hw.o.size));clear d0 d1 hC hD hw hH CU;obtain ⟨nu,HA⟩:∃ nu,yK (nu=w2.heap.size):=⟨_,rfl⟩;go_loopg [19] K.length (fun gk iv wr=>∃ (i:Nat) (pq:List Pt) (Ap:Option Addr) (cp:Nat),iv=.int .i64 (i:Nat)∧i≤K.length∧yK (Z0t m fmt l T (K.drop i) pq pe)∧pq.length≤100000∧yK (KeepP g wr (.slice Ap pq.length cp) pq)∧yK (wr.heap[g]? =some (.cells #[.int .i64 fmt,.slice Ap pq.length cp] 41))∧yK (wr.heap[g+1]? =some (.cells #[.int .i64 0,.slice none 0 0] 41))∧yK (Below w.heap.size w wr)∧yK (OwnE 3 V7 1 wr w1.heap.size (.slice Au K.length cu) (K.map fun (k:Nat)=>(k:Int)))∧K.length - i≤gk)
 case atStart=>exact ⟨0,ps,A,c,rfl,aO _,hq.o,hps,KeepP.old HP.o hd.o hg.o,hu.o,hv.o,hd.o,hh.o,yQ⟩
 case round=>
  clear hq hu hv hd hh HA;obtain ⟨i,pq,Ap,cp,rfl,hi,hq,HI,hI,HX,HY,HB,hh,hgk⟩:=hrel;generalize wr=wa at *;obtain ⟨d0,d1,e0,e1⟩:=bx2 HX.o;obtain ⟨d2,d3,e2,e3⟩:=bx2 HY.o;have Hy:g+1 < wa.heap.size:=J5 HY.o;by_cases hlt:i < K.length
  ·have hB:=hq.o;rw [aQ hlt] at hB;obtain ⟨ts,cs,n,hG,Hl⟩:=hB;have hO:=zW Hl;have Hq:=zW hG;obtain ⟨b,o,Ht,hb,c0⟩:=Q3a (hh.o.rd K6) i (by rw [bA];exact hlt);subst Ht;rw [eS] at c0;have CR:=zW (fun (A A2 A3:Option Addr) (c c2 c3:Nat) (W:World) h0 h1 h2 h3=>X5m hG A A2 A3 c c2 c3 W h0 h1 h2 h3);have hr:(pq.set K[i] (⟨true,(pq[K[i]]'hG.kl).key,ofL (Q2 (G6 ts 0 (V4 K[i] l) ((K7 K[i] l T).map (tsF fmt))))⟩:Pt)).length=pq.length:=List.length_set;generalize pq.set K[i] (⟨true,(pq[K[i]]'hG.kl).key,ofL (Q2 (G6 ts 0 (V4 K[i] l) ((K7 K[i] l T).map (tsF fmt))))⟩:Pt)=pn at hr CR hO;clear hG Hl Hq hq;generalize K[i]=k at *;have hx:=zW (RdPc.below Hp.o HB.o);have Hf:=zW (RdTT.below HT.o HB.o yQ);go_upto_region 7 with fail
   go_loopg [10,11,25] l.length (fun gk2 v10 v11 jv wz=>∃ (j:Nat) (ys:List Tv),jv=.int .i64 (j:Nat)∧j≤l.length∧yK (OwnE 54 Y9 2 wz wa.heap.size v10 (V4 k (l.take j)))∧yK (TtO wa wa.heap.size wz v11 (K7 k (l.take j) (T.take j)) ys)∧yK (Below wa.heap.size wa wz)∧l.length - j≤gk2)
   case atStart=>exact ⟨0,[],rfl,aO _,OwnE.nil,TtO.nil,aB _ _,yQ⟩
   case round=>
    obtain ⟨j,ys,rfl,hj,HO,hA,hc,Hw⟩:=hrel;by_cases hlj:j < l.length
    ·have hM:=hc.o;obtain ⟨bp,op,A8,c8,Hr,HF,r0,r1,r2,r3,_⟩:=RdPc.at_ (hx.o.below hM) j hlj;have Hk:j < T.length:=yY;obtain ⟨bT,oT,A9,c9,Hs,hE,hs,hQ⟩:=RdTT.at_ Hf.o j Hk;subst Hr;subst Hs;have hs:=zW hs;have hQ:=zW hQ;have hy:=zW (Z2h k l j hlj);have hz:=zW (Z2i k l T j hlj Hk);have HJ:=Y2g k (l.take j);have HK:=hA.o.len;have HE:=Y8s k (l.take j) (T.take j) yV;have Hz:=eQ j l;generalize l[j]=p at *;generalize T[j]=tj at *;generalize V4 k (l.take j)=rl at *;generalize K7 k (l.take j) (T.take j)=tl at *;obtain ⟨pt,lo,hi,sr⟩:=p;simp only at r0 r1 r2 r3 hy hz;generalize sr.length=sl at *;have hP:=zW (aD HO.o (.cells #[.int .i64 (pt:Nat),.int .i64 (lo:Nat),.int .i64 (hi:Nat),.slice A8 sl c8] 56));have hJ:=zW (hA.o.below ((aB wr.heap.size wr).alloc yQ (.cells #[.int .i64 (pt:Nat),.int .i64 (lo:Nat),.int .i64 (hi:Nat),.slice A8 sl c8] 56)));have hN:=zW (hM.alloc hM.size (.cells #[.int .i64 (pt:Nat),.int .i64 (lo:Nat),.int .i64 (hi:Nat),.slice A8 sl c8] 56));have hL:yK ((wr.alloc (.cells #[.int .i64 (pt:Nat),.int .i64 (lo:Nat),.int .i64 (hi:Nat),.slice A8 sl c8] 56)).heap[wr.heap.size]? =some (.cells #[.int .i64 (pt:Nat),.int .i64 (lo:Nat),.int .i64 (hi:Nat),.slice A8 sl c8] 56)):=aT wr _;go_upto_region 9 with fail
     generalize wr.alloc (.cells #[.int .i64 (pt:Nat),.int .i64 (lo:Nat),.int .i64 (hi:Nat),.slice A8 sl c8] 56)=w8 at hP hJ hN hL ⊢;obtain ⟨gp,Hj⟩:∃ gp,yK (gp=wr.heap.size):=⟨_,rfl⟩;rw [←Hj.o] at hL ⊢;have q0:w8.cell? ⟨gp,0,none⟩=some (.int .i64 (pt:Nat)):=(by rw [bV _ _ 0 _ _ _ hL.o];rfl);have Hu:bT < wa.heap.size:=hE;clear r0 r1 r2 r3 hM HO hA Hj hh HB hI CR hO HX HY;by_cases hpk:pt=k
     ·have HC:(pt:Int)=(k:Int):=yY;rw [aK hpk] at hy hz;go_upto_region 10 with fail
      refine zqR (l0:=bL 14 0) 14 kr ?_;show let o:=_;let q:=_;let a0:=_;wpAny prog _ o q _ _ a0 _
      intro o q a0;let a_:Act:=(((((a0.put (some 34) (u10)).put (some 35) (.pointer (some ⟨gp,1,none⟩))).put (some 39) (u11)).put (some 40) (.slice (some ⟨bT,oT,none⟩) T.length c2)).put (some 41) (.int .i64 (j:Nat))).put (some 42) (.pointer (some ⟨bT,oT+j,none⟩))
      let a_0:Act:=a_.put (some 36) (.agg #[.int .i64 (lo:Nat),.int .i64 (hi:Nat)])
      let a_3:Act:=a_.put (some 43) (.slice A9 tj.length c9)
      let a_01:Nat→Act:=fun ga1=>a_0.put (some 37) (.slice (some ⟨ga1,0,none⟩) 1 1)
      let a_03:Act:=a_0.put (some 43) (.slice A9 tj.length c9)
      let a_34:Nat→Act:=fun ga2=>a_3.put (some 44) (.slice (some ⟨ga2,0,none⟩) 1 1)
      let a_012:Nat→Value→Act:=fun ga1 v38=>(a_01 ga1).put (some 38) (v38)
      let a_013:Nat→Act:=fun ga1=>(a_01 ga1).put (some 43) (.slice A9 tj.length c9)
      let a_034:Nat→Act:=fun ga2=>a_03.put (some 44) (.slice (some ⟨ga2,0,none⟩) 1 1)
      let a_0123:Nat→Value→Act:=fun ga1 v38=>(a_012 ga1 v38).put (some 43) (.slice A9 tj.length c9)
      let a_0134:Nat→Nat→Act:=fun ga1 ga2=>(a_013 ga1).put (some 44) (.slice (some ⟨ga2,0,none⟩) 1 1)
      let a_01234:Nat→Value→Nat→Act:=fun ga1 v38 ga2=>(a_0123 ga1 v38).put (some 44) (.slice (some ⟨ga2,0,none⟩) 1 1)
      let a_012345:Nat→Value→Nat→Value→Act:=fun ga1 v38 ga2 v45=>(((a_01234 ga1 v38 ga2).put (some 45) (v45)).put (some 10) (v38)).put (some 11) (v45)
      have S012345:∀ (W:World) (ga1:Nat) (v38:Value) (ga2:Nat) (v45:Value),Below wa.heap.size wa W→OwnE 54 Y9 2 W wa.heap.size v38 (rl++[(lo,hi)])→OwnE 24 tvC 1 W wa.heap.size v45 (ys++[⟨tj,A9,c9⟩])→wpAny prog .any o q 0 (bL 14 16383) (a_012345 ga1 v38 ga2 v45) W:=by
       intro W ga1 v38 ga2 v45 HB HO HT;simp only [a_012345,a_01234,a_0123,a_012,a_01,a_0,a_,a0,Act.put,zZ,zY,zX];refine bW yZ ?_ _;simp only [q];go_wp2_with fail
       go_roundg (l.length - (j+1))
       case measure=>omega
       case rel=>exact ⟨j+1,ys++[⟨tj,A9,c9⟩],rfl,hlj,by rw [hy.o];exact HO,by rw [hz.o];exact hJ.o.push ⟨tj,A9,c9⟩ hQ.o HT,HB,yQ⟩
      have S01234:∀ (W:World) (ga1:Nat) (v38:Value) (ga2:Nat),Below wa.heap.size wa W→OwnE 54 Y9 2 W wa.heap.size v38 (rl++[(lo,hi)])→OwnE 24 tvC 1 W wa.heap.size u11 ys→W.heap[ga2]? =some (.cells #[.slice A9 tj.length c9] 24)→wpAny prog .any o q 3 (bL 14 2047) (a_01234 ga1 v38 ga2) W:=by
       intro W ga1 v38 ga2 HB HO HT H2;simp only [a_01234,a_0123,a_012,a_01,a_0,a_,a0,Act.put,zZ,zY,zX];refine zqo 11 rfl ?_;refine Q9b (.tmp 39) (.tmp 44) 48 24 rfl underlying48 _ tvC 1 24 Z7c rfl yX X6n Z7b wa.heap.size u11 ys yZ HT (.slice (some ⟨ga2,0,none⟩) 1 1) [⟨tj,A9,c9⟩] yZ (X6k tvC ⟨tj,A9,c9⟩ H2) (by simp only [aG,eB];omega) yX HB.size (fun v5 w5 ho ha hg _=>?_);refine zqG 12 10 (v38) rfl ?_;refine zqG 13 11 (v5) rfl ?_;exact zqX (S012345 w5 ga1 v38 ga2 v5 (ha _ _ yQ HB) (Q7 HO (Q5n hg HT HO yX)) ho)
      have S0123:∀ (W:World) (ga1:Nat) (v38:Value),Below wa.heap.size wa W→OwnE 54 Y9 2 W wa.heap.size v38 (rl++[(lo,hi)])→OwnE 24 tvC 1 W wa.heap.size u11 ys→wpAny prog .any o q 4 (bL 14 1023) (a_0123 ga1 v38) W:=by
       intro W ga1 v38 HB HO HT;simp only [a_0123,a_012,a_01,a_0,a_,a0,Act.put,zZ,zY,zX];refine zqo 10 rfl ?_;refine X1 (v:=.slice (some ⟨W.heap.size,0,none⟩) 1 1) (w2:=W.alloc (.cells #[.slice A9 tj.length c9] 24)) (Y3w (.tmp 43) rfl A9 tj.length c9 yZ) ?_;exact zqX (S01234 (W.alloc (.cells #[.slice A9 tj.length c9] 24)) ga1 v38 W.heap.size (HB.alloc HB.size _) (aD HO _) (aD HT _) (aT W _))
      have S0134:∀ (W:World) (ga1:Nat) (ga2:Nat),Below wa.heap.size wa W→OwnE 54 Y9 2 W wa.heap.size u10 rl→W.heap[ga1]? =some (.cells #[.int .i64 (lo:Nat),.int .i64 (hi:Nat)] 54)→OwnE 24 tvC 1 W wa.heap.size u11 ys→W.heap[ga2]? =some (.cells #[.slice A9 tj.length c9] 24)→wpAny prog .any o q 4 (bL 14 2031) (a_0134 ga1 ga2) W:=by
       intro W ga1 ga2 HB HO H1 HT H2;simp only [a_0134,a_013,a_01,a_0,a_,a0,Act.put,zZ,zY,zX];refine zqo 4 rfl ?_;refine Q9b (.tmp 34) (.tmp 37) 72 54 rfl underlying72 _ Y9 2 16 Q5u rfl yX Q0n Q7l wa.heap.size u10 rl yZ HO (.slice (some ⟨ga1,0,none⟩) 1 1) [(lo,hi)] yZ (X6k Y9 (lo,hi) H1) (by simp only [aG,eB];omega) yX HB.size (fun v5 w5 ho ha hg _=>?_);exact zqX (S01234 w5 ga1 v5 ga2 (ha _ _ yQ HB) ho (Q7 HT (Q5n hg HO HT yX)) (V3a hg HO H2 yX))
      have S012:∀ (W:World) (ga1:Nat) (v38:Value),Below wa.heap.size wa W→OwnE 54 Y9 2 W wa.heap.size v38 (rl++[(lo,hi)])→OwnE 24 tvC 1 W wa.heap.size u11 ys→wpAny prog .any o q 5 (bL 14 511) (a_012 ga1 v38) W:=by
       intro W ga1 v38 HB HO HT;simp only [a_012,a_01,a_0,a_,a0,Act.put,zZ,zY,zX];refine zqo 9 rfl ?_;refine zqL (.slice A9 tj.length c9) rfl (.pointer (some ⟨bT,oT+j,none⟩)) (Q4j ((HB.cell (p:=⟨bT,oT+j,none⟩) hE).trans hs.o)) ?_;exact zqX (S0123 W ga1 v38 HB HO HT)
      have S013:∀ (W:World) (ga1:Nat),Below wa.heap.size wa W→OwnE 54 Y9 2 W wa.heap.size u10 rl→W.heap[ga1]? =some (.cells #[.int .i64 (lo:Nat),.int .i64 (hi:Nat)] 54)→OwnE 24 tvC 1 W wa.heap.size u11 ys→wpAny prog .any o q 5 (bL 14 1007) (a_013 ga1) W:=by
       intro W ga1 HB HO H1 HT;simp only [a_013,a_01,a_0,a_,a0,Act.put,zZ,zY,zX];refine zqt 4 10 rfl rfl ?_ ?_
       ·refine Q9b (.tmp 34) (.tmp 37) 72 54 rfl underlying72 _ Y9 2 16 Q5u rfl yX Q0n Q7l wa.heap.size u10 rl yZ HO (.slice (some ⟨ga1,0,none⟩) 1 1) [(lo,hi)] yZ (X6k Y9 (lo,hi) H1) (by simp only [aG,eB];omega) yX HB.size (fun v5 w5 ho ha hg _=>?_);exact zqX (S0123 w5 ga1 v5 (ha _ _ yQ HB) ho (Q7 HT (Q5n hg HO HT yX)))
       ·refine X1 (v:=.slice (some ⟨W.heap.size,0,none⟩) 1 1) (w2:=W.alloc (.cells #[.slice A9 tj.length c9] 24)) (Y3w (.tmp 43) rfl A9 tj.length c9 yZ) ?_;exact zqX (S0134 (W.alloc (.cells #[.slice A9 tj.length c9] 24)) ga1 W.heap.size (HB.alloc HB.size _) (aD HO _) ((bE _ _ _ (J5 H1)).trans H1) (aD HT _) (aT W _))
      have S034:∀ (W:World) (ga2:Nat),Below wa.heap.size wa W→OwnE 54 Y9 2 W wa.heap.size u10 rl→OwnE 24 tvC 1 W wa.heap.size u11 ys→W.heap[ga2]? =some (.cells #[.slice A9 tj.length c9] 24)→wpAny prog .any o q 5 (bL 14 2023) (a_034 ga2) W:=by
       intro W ga2 HB HO HT H2;simp only [a_034,a_03,a_0,a_,a0,Act.put,zZ,zY,zX];refine zqo 3 rfl ?_;refine X1 (v:=.slice (some ⟨W.heap.size,0,none⟩) 1 1) (w2:=W.alloc (.cells #[.int .i64 (lo:Nat),.int .i64 (hi:Nat)] 54)) (Z1l (.tmp 36) rfl lo hi yZ) ?_;exact zqX (S0134 (W.alloc (.cells #[.int .i64 (lo:Nat),.int .i64 (hi:Nat)] 54)) W.heap.size ga2 (HB.alloc HB.size _) (aD HO _) (aT W _) (aD HT _) ((bE _ _ _ (J5 H2)).trans H2))
      have S01:∀ (W:World) (ga1:Nat),Below wa.heap.size wa W→OwnE 54 Y9 2 W wa.heap.size u10 rl→W.heap[ga1]? =some (.cells #[.int .i64 (lo:Nat),.int .i64 (hi:Nat)] 54)→OwnE 24 tvC 1 W wa.heap.size u11 ys→wpAny prog .any o q 6 (bL 14 495) (a_01 ga1) W:=by
       intro W ga1 HB HO H1 HT;simp only [a_01,a_0,a_,a0,Act.put,zZ,zY,zX];refine zqt 4 9 rfl rfl ?_ ?_
       ·refine Q9b (.tmp 34) (.tmp 37) 72 54 rfl underlying72 _ Y9 2 16 Q5u rfl yX Q0n Q7l wa.heap.size u10 rl yZ HO (.slice (some ⟨ga1,0,none⟩) 1 1) [(lo,hi)] yZ (X6k Y9 (lo,hi) H1) (by simp only [aG,eB];omega) yX HB.size (fun v5 w5 ho ha hg _=>?_);exact zqX (S012 w5 ga1 v5 (ha _ _ yQ HB) ho (Q7 HT (Q5n hg HO HT yX)))
       ·refine zqL (.slice A9 tj.length c9) rfl (.pointer (some ⟨bT,oT+j,none⟩)) (Q4j ((HB.cell (p:=⟨bT,oT+j,none⟩) hE).trans hs.o)) ?_;exact zqX (S013 W ga1 HB HO H1 HT)
      have S03:∀ (W:World),Below wa.heap.size wa W→OwnE 54 Y9 2 W wa.heap.size u10 rl→OwnE 24 tvC 1 W wa.heap.size u11 ys→wpAny prog .any o q 6 (bL 14 999) a_03 W:=by
       intro W HB HO HT;simp only [a_03,a_0,a_,a0,Act.put,zZ,zY,zX];refine zqt 3 10 rfl rfl ?_ ?_
       ·refine X1 (v:=.slice (some ⟨W.heap.size,0,none⟩) 1 1) (w2:=W.alloc (.cells #[.int .i64 (lo:Nat),.int .i64 (hi:Nat)] 54)) (Z1l (.tmp 36) rfl lo hi yZ) ?_;exact zqX (S013 (W.alloc (.cells #[.int .i64 (lo:Nat),.int .i64 (hi:Nat)] 54)) W.heap.size (HB.alloc HB.size _) (aD HO _) (aT W _) (aD HT _))
       ·refine X1 (v:=.slice (some ⟨W.heap.size,0,none⟩) 1 1) (w2:=W.alloc (.cells #[.slice A9 tj.length c9] 24)) (Y3w (.tmp 43) rfl A9 tj.length c9 yZ) ?_;exact zqX (S034 (W.alloc (.cells #[.slice A9 tj.length c9] 24)) W.heap.size (HB.alloc HB.size _) (aD HO _) (aD HT _) (aT W _))
      have S34:∀ (W:World) (ga2:Nat),Below wa.heap.size wa W→W.heap[gp]? =some (.cells #[.int .i64 (pt:Nat),.int .i64 (lo:Nat),.int .i64 (hi:Nat),.slice A8 sl c8] 56)→OwnE 54 Y9 2 W wa.heap.size u10 rl→OwnE 24 tvC 1 W wa.heap.size u11 ys→W.heap[ga2]? =some (.cells #[.slice A9 tj.length c9] 24)→wpAny prog .any o q 6 (bL 14 2019) (a_34 ga2) W:=by
       intro W ga2 HB HG HO HT H2;simp only [a_34,a_3,a_,a0,Act.put,zZ,zY,zX];refine zqo 2 rfl ?_;refine zqL (.agg #[.int .i64 (lo:Nat),.int .i64 (hi:Nat)]) rfl (.pointer (some ⟨gp,1,none⟩)) (Z1w HG) ?_;exact zqX (S034 W ga2 HB HO HT H2)
      have S0:∀ (W:World),Below wa.heap.size wa W→OwnE 54 Y9 2 W wa.heap.size u10 rl→OwnE 24 tvC 1 W wa.heap.size u11 ys→wpAny prog .any o q 7 (bL 14 487) a_0 W:=by
       intro W HB HO HT;simp only [a_0,a_,a0,Act.put,zZ,zY,zX];refine zqt 3 9 rfl rfl ?_ ?_
       ·refine X1 (v:=.slice (some ⟨W.heap.size,0,none⟩) 1 1) (w2:=W.alloc (.cells #[.int .i64 (lo:Nat),.int .i64 (hi:Nat)] 54)) (Z1l (.tmp 36) rfl lo hi yZ) ?_;exact zqX (S01 (W.alloc (.cells #[.int .i64 (lo:Nat),.int .i64 (hi:Nat)] 54)) W.heap.size (HB.alloc HB.size _) (aD HO _) (aT W _) (aD HT _))
       ·refine zqL (.slice A9 tj.length c9) rfl (.pointer (some ⟨bT,oT+j,none⟩)) (Q4j ((HB.cell (p:=⟨bT,oT+j,none⟩) hE).trans hs.o)) ?_;exact zqX (S03 W HB HO HT)
      have S3:∀ (W:World),Below wa.heap.size wa W→W.heap[gp]? =some (.cells #[.int .i64 (pt:Nat),.int .i64 (lo:Nat),.int .i64 (hi:Nat),.slice A8 sl c8] 56)→OwnE 54 Y9 2 W wa.heap.size u10 rl→OwnE 24 tvC 1 W wa.heap.size u11 ys→wpAny prog .any o q 7 (bL 14 995) a_3 W:=by
       intro W HB HG HO HT;simp only [a_3,a_,a0,Act.put,zZ,zY,zX];refine zqt 2 10 rfl rfl ?_ ?_
       ·refine zqL (.agg #[.int .i64 (lo:Nat),.int .i64 (hi:Nat)]) rfl (.pointer (some ⟨gp,1,none⟩)) (Z1w HG) ?_;exact zqX (S03 W HB HO HT)
       ·refine X1 (v:=.slice (some ⟨W.heap.size,0,none⟩) 1 1) (w2:=W.alloc (.cells #[.slice A9 tj.length c9] 24)) (Y3w (.tmp 43) rfl A9 tj.length c9 yZ) ?_;exact zqX (S34 (W.alloc (.cells #[.slice A9 tj.length c9] 24)) W.heap.size (HB.alloc HB.size _) ((bE _ _ _ (J5 HG)).trans HG) (aD HO _) (aD HT _) (aT W _))
      have S:∀ (W:World),Below wa.heap.size wa W→W.heap[gp]? =some (.cells #[.int .i64 (pt:Nat),.int .i64 (lo:Nat),.int .i64 (hi:Nat),.slice A8 sl c8] 56)→OwnE 54 Y9 2 W wa.heap.size u10 rl→OwnE 24 tvC 1 W wa.heap.size u11 ys→wpAny prog .any o q 14 (bL 14 0) a0 W:=by
       intro W HB HG HO HT;simp only [a0,Act.put,zZ,zY,zX];refine zqM 0 34 (u10) rfl ?_;refine zqF 1 35 (.pointer (some ⟨gp,1,none⟩)) rfl rfl (.pointer (some ⟨gp,0,none⟩)) ?_;refine zqM 5 39 (u11) rfl ?_;refine zqM 6 40 (.slice (some ⟨bT,oT,none⟩) T.length c2) rfl ?_;refine zqM 7 41 (.int .i64 (j:Nat)) rfl ?_;refine zqI 8 42 (.pointer (some ⟨bT,oT+j,none⟩)) rfl rfl (.slice (some ⟨bT,oT,none⟩) T.length c2) (.int .i64 (j:Nat)) ?_;simp only [Act.put,zZ,zY,zX];refine zqt 2 9 rfl rfl ?_ ?_
       ·refine zqL (.agg #[.int .i64 (lo:Nat),.int .i64 (hi:Nat)]) rfl (.pointer (some ⟨gp,1,none⟩)) (Z1w HG) ?_;exact zqX (S0 W HB HO HT)
       ·refine zqL (.slice A9 tj.length c9) rfl (.pointer (some ⟨bT,oT+j,none⟩)) (Q4j ((HB.cell (p:=⟨bT,oT+j,none⟩) hE).trans hs.o)) ?_;exact zqX (S3 W HB HG HO HT)
      exact S _ (Q1 hN.o 1) hL.o hP.o hJ.o.own
     ·have HC:¬ (pt:Int)=(k:Int):=yY;rw [aE hpk] at hy hz;go_wp2_with fail
      go_roundg (l.length - (j+1))
      case measure=>omega
      case rel=>exact ⟨j+1,ys,rfl,hlj,by rw [hy.o];exact hP.o,by rw [hz.o];exact hJ.o,hN.o,yQ⟩
    ·obtain rfl:j=l.length:=yY;have ho:=HO.o;have ht:=hA.o;rw [aW] at ho;rw [aW,show T.take l.length=T by rw [hl,aW]] at ht;obtain ⟨Ar,cr,HD⟩:=Q0 ho;subst HD;obtain ⟨At,ct,Hn⟩:=Q0 ht.own;rw [ht.len] at Hn;subst Hn;have Hd:=zW (ht.rd hc.o);have Hc:=zW (ho.rd Q0n);have Hb:=zW (hI.o wr hc.o.size fun k hk _ _=>hc.o.block k hk);have hY:=zW (X8 HM.o (HB.o.trans (hc.o.mono HB.o.size)));have hu:=zW ((hc.o.block g yY).trans HX.o);have hv:=zW ((hc.o.block (g+1) Hy).trans HY.o);have hd:=zW (HB.o.trans (hc.o.mono HB.o.size));have hn:=zW (Q7 hh.o fun k hk=>hc.o.block k (hh.o.lt k hk).2);have hF:g+1 < wr.heap.size:=J5 hv.o;clear ho ht HO hA d0 d1 e0 e1 d2 d3 e2 e3 HX HY HB hh hI hx Hf c0 hb;obtain ⟨d0,d1,_,_⟩:=bx2 hu.o;go_upto_region 13 with (go_at_call 32;refine (CR.o Ap Ar At cp cr ct _ (by exact hY.o) (by exact Hb.o) (by exact Hc.o) (by exact Hd.o)).mono ?_;rintro e w4 ⟨A4,c4,rfl,Hm,Hh⟩;have hZ:=zW Hm;have hf:=zW Hh;clear Hm Hh)
     have hS:yK ((w4.alloc (.cells #[.int .i64 fmt,.slice A4 pq.length c4] 41)).heap[g]? =some (.cells #[.int .i64 fmt,.slice Ap pq.length cp] 41)):=(bE _ _ _ (by have:=hf.o.size;omega)).trans ((hf.o.block g yY).trans hu.o);have Hg:yK ((w4.alloc (.cells #[.int .i64 fmt,.slice A4 pq.length c4] 41)).heap[g+1]? =some (.cells #[.int .i64 0,.slice none 0 0] 41)):=(bE _ _ _ (by have:=hf.o.size;omega)).trans ((hf.o.block (g+1) hF).trans hv.o);have hU:yK ((w4.alloc (.cells #[.int .i64 fmt,.slice A4 pq.length c4] 41)).heap[w4.heap.size]? =some (.cells #[.int .i64 fmt,.slice A4 pq.length c4] 41)):=aT w4 _;have Ha:=zW (aD hZ.o (.cells #[.int .i64 fmt,.slice A4 pq.length c4] 41));have hR:=zW (aD (Q7 hn.o fun k hk=>hf.o.block k (hn.o.lt k hk).2) (.cells #[.int .i64 fmt,.slice A4 pq.length c4] 41));have hX:=zW ((hd.o.trans (hf.o.mono hd.o.size)).alloc (aP hd.o.size hf.o.size) (.cells #[.int .i64 fmt,.slice A4 pq.length c4] 41));clear hZ hn hd hu hv hY Hb Hc Hd hc CR d0 d1 hf;generalize w4.alloc (.cells #[.int .i64 fmt,.slice A4 pq.length c4] 41)=w5 at hS Hg hU Ha hR hX ⊢;generalize w4.heap.size=gn at hU ⊢;obtain ⟨d0,d1,y0,y1⟩:=bx2 hS.o;obtain ⟨d2,d3,_,_⟩:=bx2 hU.o;go_wp2_with fail
     go_roundg (K.length - (i+1))
     case measure=>omega
     case rel=>
      refine ⟨i+1,pn,A4,c4,rfl,hlt,hO.o,yY,?_,?_,?_,?_,?_,yQ⟩
      ·rw [hr];exact KeepP.new Ha.o hF (by simp [World.setCell]) fun k _ h1 _=>O3 h1
      ·rw [hr];exact Q8x hS.o
      ·exact (O3 yY).trans Hg.o
      ·exact (hX.o.setCell (p:=⟨g,0,none⟩) (by have:=hg.o;show _≤g;omega) _).setCell (p:=⟨g,1,none⟩) (by have:=hg.o;show _≤g;omega) _
      ·exact Q7 hR.o fun k hk=>O3 (by have:=(hR.o.lt k hk).1;omega)
  ·obtain rfl:i=K.length:=yY;have he:=hq.o;rw [eF] at he;have Hv:pq=pe:=he;subst Hv;clear hq he;go_wp2_with fail
   refine bO (Y9j rfl _ _ (g+1) fmt Ap pq.length cp _ rfl rfl yU yU) rfl ?_;rw [He.o];exact ⟨Ap,cp,rfl,hI.o _ (by simp [World.setCell]) fun k _ _ h2=>O3 h2,(HB.o.setCell (p:=⟨g+1,0,none⟩) (by have:=hg.o;show _≤g+1;omega) _).setCell (p:=⟨g+1,1,none⟩) (by have:=hg.o;show _≤g+1;omega) _⟩
end Go.Proofs.YtfkojnofbpdjdaaGreatDoor
