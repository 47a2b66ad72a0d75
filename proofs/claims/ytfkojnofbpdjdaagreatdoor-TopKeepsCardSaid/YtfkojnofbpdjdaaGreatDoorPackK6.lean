/-
  Contracts and plain laws that this claim leans on, part 6.
-/
import Derived.Test.YtfkojnofbpdjdaaGreatDoorPackK5
import Derived.Test.YtfkojnofbpdjdaaGreatDoorPackK2
import Derived.Test.YtfkojnofbpdjdaaGreatDoorPackK3
import Derived.Test.YtfkojnofbpdjdaaGreatDoorPackK4
import Derived.Test.YtfkojnofbpdjdaaGreatDoorPackK1
set_option linter.unusedVariables false
set_option linter.unusedSimpArgs false
set_option maxHeartbeats 16000000
set_option maxRecDepth 100000
namespace Go.Proofs.YtfkojnofbpdjdaaGreatDoor
open Go.RowKit
def N6 (fmt:Int) (L:List Int) (x:Tk) (N:Nat):List UInt8×Nat:=
 if fmt=1∧x.k=1∧x.t.data.toList=[62] then ([38,103,116,59],N)
 else if fmt=1∧x.k=1∧x.t.data.toList=[125] then ([38,114,98,59],N)
 else if fmt=2∧x.k=1∧x.t.data.toList=[32] then ([92,115],N)
 else if fmt=2 then (92::10::X8i.getD (X0 L N 3).toNat []++V3 fmt x,N+1)
 else (V3 fmt x,N)
theorem Q9u (fmt:Int) (L:List Int) (x:Tk) (N:Nat) (h:X0 L N 3=0):Q2 (elS fmt L x N).1=(N6 fmt L x (N+1)).1∧(elS fmt L x N).2=(N6 fmt L x (N+1)).2:=by
 unfold elS N6;rw [if_pos h];split
 ·exact ⟨by simp [Q2],rfl⟩
 ·split
  ·exact ⟨by simp [Q2],rfl⟩
  ·split
   ·exact ⟨by simp [Q2],rfl⟩
   ·split
    ·exact ⟨by simp [Q2],rfl⟩
    ·exact ⟨by simp [Q2],rfl⟩
theorem X1x (fmt:Int) (L:List Int) (x:Tk) (N:Nat) (h:X0 L N 3≠0):Q2 (elS fmt L x N).1=V3 fmt x∧(elS fmt L x N).2=N+1:=by
 unfold elS;rw [if_neg h];exact ⟨by simp [Q2],rfl⟩
theorem Z0o (s:ByteArray) (w:World) (h0:0 < s.size) (h:s.data.toList.head? ≠some 32):Calls Tryz.prog 198 #[.string s] w fun e w'=>e=.returned (.string s)∧w=w':=by
 have ha:(s.toList != [])=true:=by
  rw [bne_iff_ne,Y4];intro e;rw [Lib.size_eq,e] at h0;simp at h0
 have hb:¬ s.toList=[]:=(by simpa using ha);have hd:((s[0].toNat:Int)==32)=false:=by
  refine X8 s[0] 32 fun e=>h ?_;have hl:0 < s.data.toList.length:=(by rw [←Lib.size_eq];exact h0);rw [List.head?_eq_getElem?,List.getElem?_eq_getElem hl];have:s.data.toList[0]=s[0]:=rfl;rw [this,e]
 have hc:(0:Int) < (s.size:Int):=yY;clear h;go_enter Tryz.func198,Tryz.ntmps198
 go_wp2_with fail
 first | go_ret | skip
 exact ⟨rfl,rfl⟩
theorem Y8n {o:Oper} {a:Act} {w:World} (ho:o.op=.buildSlice 79 3 #[(0,.const (.string ⟨#[]⟩)),(1,.const (.string ⟨#[32]⟩)),(2,.const (.string ⟨#[9,32]⟩))]):(execOp a.eval o).run Tryz.prog w=.ok (.value (.slice (some ⟨w.heap.size,0,none⟩) 3 3)) (w.alloc (.cells #[.string ⟨#[]⟩,.string ⟨#[32]⟩,.string ⟨#[9,32]⟩] 9)):=by
 have h0:a.eval (.const (.string ⟨#[]⟩))=.string ⟨#[]⟩:=rfl;have h1:a.eval (.const (.string ⟨#[32]⟩))=.string ⟨#[32]⟩:=rfl;have h2:a.eval (.const (.string ⟨#[9,32]⟩))=.string ⟨#[9,32]⟩:=rfl;generalize a.eval=ρ at h0 h1 h2 ⊢;unfold execOp;simp only [ho];go_simp
def X4g (g:Nat) (L:List Int) (r:List UInt8×Nat) (w:World) (e:Ending) (w':World):Prop:=e=.returned (.string (ofL r.1))∧But g w w'∧Nums w' g L r.2
theorem Z5f (L:List Int) (g N:Nat) (t s:ByteArray) (d:Int) (h1:(t.toList==[62])=true) (w:World) (h:Nums w g L N):
 Calls Tryz.prog 172 #[.pointer (some ⟨g,0,none⟩),.int .i64 1,.agg #[.int .i64 1,.string t,.int .i64 d],.string s] w (fun e w'=>e=.returned (.string ⟨#[38,103,116,59]⟩)∧But g w w'∧Nums w' g L N):=by
 have HB:=zW ((But.refl g w).alloc (.cells #[.int .i64 1,.string t,.int .i64 d] 31));have HN:=zW (h.alloc (.cells #[.int .i64 1,.string t,.int .i64 d] 31));clear h;go_enter Tryz.func172,Tryz.ntmps172
 go_wp2_with fail
 first | go_ret | skip
 exact ⟨rfl,HB.o,HN.o⟩
theorem Z5g (L:List Int) (g N:Nat) (t s:ByteArray) (d:Int) (h1:(t.toList==[62])=false) (h2:(t.toList==[125])=true) (w:World) (h:Nums w g L N):
 Calls Tryz.prog 172 #[.pointer (some ⟨g,0,none⟩),.int .i64 1,.agg #[.int .i64 1,.string t,.int .i64 d],.string s] w (fun e w'=>e=.returned (.string ⟨#[38,114,98,59]⟩)∧But g w w'∧Nums w' g L N):=by
 have HB:=zW ((But.refl g w).alloc (.cells #[.int .i64 1,.string t,.int .i64 d] 31));have HN:=zW (h.alloc (.cells #[.int .i64 1,.string t,.int .i64 d] 31));clear h;go_enter Tryz.func172,Tryz.ntmps172
 go_wp2_with fail
 first | go_ret | skip
 exact ⟨rfl,HB.o,HN.o⟩
theorem Y5h (L:List Int) (g N:Nat) (k d:Int) (t s:ByteArray) (h1:(t.toList==[62])=false) (h2:(t.toList==[125])=false) (w:World) (h:Nums w g L N):
 Calls Tryz.prog 172 #[.pointer (some ⟨g,0,none⟩),.int .i64 1,.agg #[.int .i64 k,.string t,.int .i64 d],.string s] w (fun e w'=>e=.returned (.string s)∧But g w w'∧Nums w' g L N):=by
 have HB:=zW ((But.refl g w).alloc (.cells #[.int .i64 k,.string t,.int .i64 d] 31));have HN:=zW (h.alloc (.cells #[.int .i64 k,.string t,.int .i64 d] 31));clear h;go_enter Tryz.func172,Tryz.ntmps172
 go_wp2_with fail
 first | go_ret | skip
 exact ⟨rfl,HB.o,HN.o⟩
theorem Z5h (L:List Int) (g N:Nat) (t s:ByteArray) (d:Int) (h1:(t.toList==[32])=true) (w:World) (h:Nums w g L N):
 Calls Tryz.prog 172 #[.pointer (some ⟨g,0,none⟩),.int .i64 2,.agg #[.int .i64 1,.string t,.int .i64 d],.string s] w (fun e w'=>e=.returned (.string ⟨#[92,115]⟩)∧But g w w'∧Nums w' g L N):=by
 have HB:=zW ((But.refl g w).alloc (.cells #[.int .i64 1,.string t,.int .i64 d] 31));have HN:=zW (h.alloc (.cells #[.int .i64 1,.string t,.int .i64 d] 31));clear h;go_enter Tryz.func172,Tryz.ntmps172
 go_wp2_with fail
 first | go_ret | skip
 exact ⟨rfl,HB.o,HN.o⟩
theorem Y5j (L:List Int) (g N:Nat) (k d:Int) (t s:ByteArray) (w:World) (h:Nums w g L N):
 Calls Tryz.prog 172 #[.pointer (some ⟨g,0,none⟩),.int .i64 3,.agg #[.int .i64 k,.string t,.int .i64 d],.string s] w (fun e w'=>e=.returned (.string s)∧But g w w'∧Nums w' g L N):=by
 have HB:=zW ((But.refl g w).alloc (.cells #[.int .i64 k,.string t,.int .i64 d] 31));have HN:=zW (h.alloc (.cells #[.int .i64 k,.string t,.int .i64 d] 31));clear h;go_enter Tryz.func172,Tryz.ntmps172
 go_wp2_with fail
 first | go_ret | skip
 exact ⟨rfl,HB.o,HN.o⟩
theorem Y5i (L:List Int) (g N:Nat) (k d:Int) (t s:ByteArray) (w:World) (h:Nums w g L N) (h1:(t.toList==[32])=false) (hs0:0 < s.size) (hsh:s.data.toList.head? ≠some 32) (hss:s.size≤1000000) (hN:N≤1000000):
 Calls Tryz.prog 172 #[.pointer (some ⟨g,0,none⟩),.int .i64 2,.agg #[.int .i64 k,.string t,.int .i64 d],.string s] w (X4g g L (92::10::X8i.getD (X0 L N 3).toNat []++s.data.toList,N+1) w):=by
 have HB:=zW ((But.refl g w).alloc (.cells #[.int .i64 k,.string t,.int .i64 d] 31));have HN:=zW (h.alloc (.cells #[.int .i64 k,.string t,.int .i64 d] 31));have hz:=X7 L N 3 yX;have CN:=zW (fun w h=>Z3 L g N 3 w h yY yX yX);have CS:=zW (fun w=>Z0o s w hs0 hsh);obtain ⟨b,hb⟩:∃ b,yK (ofL (X8i.getD (X0 L N 3).toNat [])=b):=⟨_,rfl⟩;have ht:b.size≤2:=by
  rw [←hb.o,Q6];rcases (show X0 L N 3=0∨X0 L N 3=1∨X0 L N 3=2 by omega) with e | e | e<;>rw [e]<;>decide
 have HE:yK ((⟨#[92,10]⟩:ByteArray)++b++s=ofL (92::10::X8i.getD (X0 L N 3).toNat []++s.data.toList)):=by
  show _=_;rw [←hb.o];apply ByteArray.ext;apply Array.toList_inj.1;simp [ofL]
 have hi:yK (∀ z,z=X0 L N 3→([⟨#[]⟩,⟨#[32]⟩,⟨#[9,32]⟩]:List ByteArray).getD z.toNat ⟨#[]⟩=b):=fun z hp=>by
  rw [hp,←hb.o];rcases (show X0 L N 3=0∨X0 L N 3=1∨X0 L N 3=2 by omega) with e | e | e<;>rw [e]<;>rfl
 obtain ⟨z,hg⟩:∃ z:Nat,X0 L N 3=(z:Int):=⟨(X0 L N 3).toNat,yY⟩;have he:yK ((([⟨#[]⟩,⟨#[32]⟩,⟨#[9,32]⟩]:List ByteArray).getD z ⟨#[]⟩)=b):=by
  have:=hi.o _ rfl;rw [hg,Int.toNat_natCast] at this;exact this
 rw [hg] at CN hz;have hl:z < 3:=yY;have hf:(z:Int) < 3:=yY;have hs:(0:Int)≤(z:Int):=yY;have ho:=HN.o.lt;clear h hs0 hsh hb hi hz hg;go_enter Tryz.func172,Tryz.ntmps172
 go_upto_region 8 with fail
 generalize w.alloc (.cells #[.int .i64 k,.string t,.int .i64 d] 31)=w0 at *;refine zqR (l0:=#[false,false,false,false,false,false,false,false,false,false]) 10 rfl ?_;refine zqM 1 52 (.pointer (some ⟨g,0,none⟩)) rfl ?_;refine zqM 6 57 (.string s) rfl ?_;simp only [Act.put,zZ,zY,zX];refine zqt 0 2 rfl rfl ?_ ?_
 ·refine Q7 (v:=.slice (some ⟨w0.drew.heap.size,0,none⟩) 3 3) (w2:=w0.drew.alloc (.cells #[.string ⟨#[]⟩,.string ⟨#[32]⟩,.string ⟨#[9,32]⟩] 9)) (Y8n rfl) ?_;have hm:yK (But g w (w0.drew.alloc (.cells #[.string ⟨#[]⟩,.string ⟨#[32]⟩,.string ⟨#[9,32]⟩] 9))):=(HB.o.drewN 1).alloc (.cells #[.string ⟨#[]⟩,.string ⟨#[32]⟩,.string ⟨#[9,32]⟩] 9);have hn:yK (Nums (w0.drew.alloc (.cells #[.string ⟨#[]⟩,.string ⟨#[32]⟩,.string ⟨#[9,32]⟩] 9)) g L N):=HN.o.alloc (.cells #[.string ⟨#[]⟩,.string ⟨#[32]⟩,.string ⟨#[9,32]⟩] 9);have hj:yK (∀ W,But g (w0.drew.alloc (.cells #[.string ⟨#[]⟩,.string ⟨#[32]⟩,.string ⟨#[9,32]⟩] 9)) W→W.cell? ⟨w0.drew.heap.size,z,none⟩=some (.string b)):=fun W hW=>by
   have:=C5 (w:=w0.drew) (xs:=[⟨#[]⟩,⟨#[32]⟩,⟨#[9,32]⟩]) (t:=9) (z:Int) yY (by simpa using hf) ho (by exact hW);rw [Int.toNat_natCast,he.o] at this;exact this
  obtain ⟨ga,hd⟩:∃ ga,yK (ga=w0.drew.heap.size):=⟨_,rfl⟩;rw [←hd.o] at hj ⊢;generalize w0.drew.alloc (.cells #[.string ⟨#[]⟩,.string ⟨#[32]⟩,.string ⟨#[9,32]⟩] 9)=wA at *;simp only [Act.put,zZ,zY,zX];refine zqo 2 rfl ?_;refine Q2n (.pointer (some ⟨g,0,none⟩)) (.int .i64 3) rfl Tryz.func34 (CN.o _ (by exact hn.o)) ?_;rintro e w5 ⟨rfl,hb5,hn5⟩;have ha:=zW (hm.o.trans hb5);have hc:=zW hn5;have hq:=hj.o _ hb5;clear hb5 hn5;refine ⟨.int .i64 z,rfl,?_⟩;refine zqI 3 54 (.pointer (some ⟨ga,z,none⟩)) rfl rfl (.slice (some ⟨ga,0,none⟩) 3 3) (.int .i64 (z:Int)) ?_;simp only [Act.put,zZ,zY,zX];refine zqt 4 7 rfl rfl ?_ ?_
  ·refine zqL (.string b) rfl (.pointer (some ⟨ga,z,none⟩)) (K8 hq) ?_;refine zqB 5 56 (.string ((⟨#[92,10]⟩:ByteArray)++b)) rfl rfl (.string (⟨#[92,10]⟩:ByteArray)) (.string b) ?_ (hr:=fun _=>by go_simp;omega);simp only [Act.put,zZ,zY,zX];refine zqo 7 rfl ?_;refine Q0y (.string s) rfl Tryz.func198 (CS.o _) ?_;rintro e w6 ⟨rfl,rfl⟩;refine ⟨.string s,rfl,?_⟩;refine zqB 8 59 (.string ((⟨#[92,10]⟩:ByteArray)++b++s)) rfl rfl (.string ((⟨#[92,10]⟩:ByteArray)++b)) (.string s) ?_ (hr:=fun _=>by go_simp;omega);refine zqG 9 8 (.string ((⟨#[92,10]⟩:ByteArray)++b++s)) rfl ?_;simp only [Act.put,zZ,zY,zX];refine wpAny_done yZ ?_ _;go_wp2_with fail
   first | go_ret | skip
   refine ⟨?_,ha.o,hc.o⟩;show Ending.returned (.string ((⟨#[92,10]⟩:ByteArray)++b++s))=_;rw [HE.o];rfl
  ·refine Q0y (.string s) rfl Tryz.func198 (CS.o _) ?_;rintro e w6 ⟨rfl,rfl⟩;refine ⟨.string s,rfl,?_⟩;simp only [Act.put,zZ,zY,zX];refine zqo 4 rfl ?_;refine zqL (.string b) rfl (.pointer (some ⟨ga,z,none⟩)) (K8 hq) ?_;refine zqB 5 56 (.string ((⟨#[92,10]⟩:ByteArray)++b)) rfl rfl (.string (⟨#[92,10]⟩:ByteArray)) (.string b) ?_ (hr:=fun _=>by go_simp;omega);refine zqB 8 59 (.string ((⟨#[92,10]⟩:ByteArray)++b++s)) rfl rfl (.string ((⟨#[92,10]⟩:ByteArray)++b)) (.string s) ?_ (hr:=fun _=>by go_simp;omega);refine zqG 9 8 (.string ((⟨#[92,10]⟩:ByteArray)++b++s)) rfl ?_;simp only [Act.put,zZ,zY,zX];refine wpAny_done yZ ?_ _;go_wp2_with fail
   first | go_ret | skip
   refine ⟨?_,ha.o,hc.o⟩;show Ending.returned (.string ((⟨#[92,10]⟩:ByteArray)++b++s))=_;rw [HE.o];rfl
 ·refine Q2n (.pointer (some ⟨g,0,none⟩)) (.int .i64 3) rfl Tryz.func34 (CN.o _ (by exact HN.o)) ?_;rintro e w5 ⟨rfl,hb5,hn5⟩;have hh:=zW ((HB.o.drewN 1).trans hb5);have hk:=zW hn5;clear hb5 hn5;refine ⟨.int .i64 z,rfl,?_⟩;simp only [Act.put,zZ,zY,zX];refine zqt 0 7 rfl rfl ?_ ?_
  ·refine Q7 (v:=.slice (some ⟨w5.heap.size,0,none⟩) 3 3) (w2:=w5.alloc (.cells #[.string ⟨#[]⟩,.string ⟨#[32]⟩,.string ⟨#[9,32]⟩] 9)) (Y8n rfl) ?_;have ha:=zW (hh.o.alloc (.cells #[.string ⟨#[]⟩,.string ⟨#[32]⟩,.string ⟨#[9,32]⟩] 9));have hc:=zW (hk.o.alloc (.cells #[.string ⟨#[]⟩,.string ⟨#[32]⟩,.string ⟨#[9,32]⟩] 9));have hq:(w5.alloc (.cells #[.string ⟨#[]⟩,.string ⟨#[32]⟩,.string ⟨#[9,32]⟩] 9)).cell? ⟨w5.heap.size,z,none⟩=some (.string b):=by
    have:=Q1v w5 w5.heap.size rfl [⟨#[]⟩,⟨#[32]⟩,⟨#[9,32]⟩] 9 z (by simpa using hl);rw [he.o] at this;exact this
   obtain ⟨ga,hd⟩:∃ ga,yK (ga=w5.heap.size):=⟨_,rfl⟩;rw [←hd.o] at hq ⊢;generalize w5.alloc (.cells #[.string ⟨#[]⟩,.string ⟨#[32]⟩,.string ⟨#[9,32]⟩] 9)=wA at *;refine zqI 3 54 (.pointer (some ⟨ga,z,none⟩)) rfl rfl (.slice (some ⟨ga,0,none⟩) 3 3) (.int .i64 (z:Int)) ?_;simp only [Act.put,zZ,zY,zX];refine zqt 4 7 rfl rfl ?_ ?_
   ·refine zqL (.string b) rfl (.pointer (some ⟨ga,z,none⟩)) (K8 hq) ?_;refine zqB 5 56 (.string ((⟨#[92,10]⟩:ByteArray)++b)) rfl rfl (.string (⟨#[92,10]⟩:ByteArray)) (.string b) ?_ (hr:=fun _=>by go_simp;omega);simp only [Act.put,zZ,zY,zX];refine zqo 7 rfl ?_;refine Q0y (.string s) rfl Tryz.func198 (CS.o _) ?_;rintro e w6 ⟨rfl,rfl⟩;refine ⟨.string s,rfl,?_⟩;refine zqB 8 59 (.string ((⟨#[92,10]⟩:ByteArray)++b++s)) rfl rfl (.string ((⟨#[92,10]⟩:ByteArray)++b)) (.string s) ?_ (hr:=fun _=>by go_simp;omega);refine zqG 9 8 (.string ((⟨#[92,10]⟩:ByteArray)++b++s)) rfl ?_;simp only [Act.put,zZ,zY,zX];refine wpAny_done yZ ?_ _;go_wp2_with fail
    first | go_ret | skip
    refine ⟨?_,ha.o,hc.o⟩;show Ending.returned (.string ((⟨#[92,10]⟩:ByteArray)++b++s))=_;rw [HE.o];rfl
   ·refine Q0y (.string s) rfl Tryz.func198 (CS.o _) ?_;rintro e w6 ⟨rfl,rfl⟩;refine ⟨.string s,rfl,?_⟩;simp only [Act.put,zZ,zY,zX];refine zqo 4 rfl ?_;refine zqL (.string b) rfl (.pointer (some ⟨ga,z,none⟩)) (K8 hq) ?_;refine zqB 5 56 (.string ((⟨#[92,10]⟩:ByteArray)++b)) rfl rfl (.string (⟨#[92,10]⟩:ByteArray)) (.string b) ?_ (hr:=fun _=>by go_simp;omega);refine zqB 8 59 (.string ((⟨#[92,10]⟩:ByteArray)++b++s)) rfl rfl (.string ((⟨#[92,10]⟩:ByteArray)++b)) (.string s) ?_ (hr:=fun _=>by go_simp;omega);refine zqG 9 8 (.string ((⟨#[92,10]⟩:ByteArray)++b++s)) rfl ?_;simp only [Act.put,zZ,zY,zX];refine wpAny_done yZ ?_ _;go_wp2_with fail
    first | go_ret | skip
    refine ⟨?_,ha.o,hc.o⟩;show Ending.returned (.string ((⟨#[92,10]⟩:ByteArray)++b++s))=_;rw [HE.o];rfl
  ·refine Q0y (.string s) rfl Tryz.func198 (CS.o _) ?_;rintro e w6 ⟨rfl,rfl⟩;refine ⟨.string s,rfl,?_⟩;simp only [Act.put,zZ,zY,zX];refine zqo 0 rfl ?_;refine Q7 (v:=.slice (some ⟨w5.heap.size,0,none⟩) 3 3) (w2:=w5.alloc (.cells #[.string ⟨#[]⟩,.string ⟨#[32]⟩,.string ⟨#[9,32]⟩] 9)) (Y8n rfl) ?_;have ha:=zW (hh.o.alloc (.cells #[.string ⟨#[]⟩,.string ⟨#[32]⟩,.string ⟨#[9,32]⟩] 9));have hc:=zW (hk.o.alloc (.cells #[.string ⟨#[]⟩,.string ⟨#[32]⟩,.string ⟨#[9,32]⟩] 9));have hq:(w5.alloc (.cells #[.string ⟨#[]⟩,.string ⟨#[32]⟩,.string ⟨#[9,32]⟩] 9)).cell? ⟨w5.heap.size,z,none⟩=some (.string b):=by
    have:=Q1v w5 w5.heap.size rfl [⟨#[]⟩,⟨#[32]⟩,⟨#[9,32]⟩] 9 z (by simpa using hl);rw [he.o] at this;exact this
   obtain ⟨ga,hd⟩:∃ ga,yK (ga=w5.heap.size):=⟨_,rfl⟩;rw [←hd.o] at hq ⊢;generalize w5.alloc (.cells #[.string ⟨#[]⟩,.string ⟨#[32]⟩,.string ⟨#[9,32]⟩] 9)=wA at *;refine zqI 3 54 (.pointer (some ⟨ga,z,none⟩)) rfl rfl (.slice (some ⟨ga,0,none⟩) 3 3) (.int .i64 (z:Int)) ?_;simp only [Act.put,zZ,zY,zX];refine zqo 4 rfl ?_;refine zqL (.string b) rfl (.pointer (some ⟨ga,z,none⟩)) (K8 hq) ?_;refine zqB 5 56 (.string ((⟨#[92,10]⟩:ByteArray)++b)) rfl rfl (.string (⟨#[92,10]⟩:ByteArray)) (.string b) ?_ (hr:=fun _=>by go_simp;omega);refine zqB 8 59 (.string ((⟨#[92,10]⟩:ByteArray)++b++s)) rfl rfl (.string ((⟨#[92,10]⟩:ByteArray)++b)) (.string s) ?_ (hr:=fun _=>by go_simp;omega);refine zqG 9 8 (.string ((⟨#[92,10]⟩:ByteArray)++b++s)) rfl ?_;simp only [Act.put,zZ,zY,zX];refine wpAny_done yZ ?_ _;go_wp2_with fail
   first | go_ret | skip
   refine ⟨?_,ha.o,hc.o⟩;show Ending.returned (.string ((⟨#[92,10]⟩:ByteArray)++b++s))=_;rw [HE.o];rfl
theorem V3v (l:List UInt8) (h:V8 l=true∨N5 l=true):∃ c r,l=c::r∧M7 c=true:=by
 rcases h with h | h
 ·obtain ⟨c,r,e,h1,_⟩:=C8 l h;exact ⟨c,r,e,h1⟩
 ·exact E4 l h
theorem X6r (t:ByteArray) (h:V8 t.data.toList=true∨N5 t.data.toList=true) (c:UInt8) (hc:M7 c=false):(t.toList==[c])=false:=by
 obtain ⟨d,r,e,hd⟩:=V3v _ h;rw [Y4,e,beq_eq_false_iff_ne];intro e2;injection e2 with e2 _;rw [e2,hc] at hd;cases hd
theorem Y9c (fmt:Int) (hf:E7 fmt) (L:List Int) (g N:Nat) (x:Tk) (w:World) (h:Nums w g L N) (ho:One x) (hi:N0 x) (hp:fmt≠1→V5 x) (hx:x.t.size≤1000) (hN:N≤1000000):
 Calls Tryz.prog 172 #[.pointer (some ⟨g,0,none⟩),.int .i64 fmt,.agg #[.int .i64 x.k,.string x.t,.int .i64 x.d],.string (ofL (V3 fmt x))] w (X4g g L (N6 fmt L x N) w):=by
 have he:N0 x→x.k≠1→V8 x.t.data.toList=true∨N5 x.t.data.toList=true:=fun hi hk=>by
  rcases hi with h | ⟨_,h,_⟩ | ⟨_,h,_⟩ | ⟨_,h,_⟩
  ·exact absurd h hk
  ·exact .inl h
  ·exact .inr h
  ·exact .inl h
 have ha:(ofL (V3 fmt x)).size≤1000000:=by
  rw [Q6];have:=Q1w fmt x;omega
 have hc:=Y8j fmt hf x ho hi hp;have hb:0 < (ofL (V3 fmt x)).size:=(by rw [Q6];exact X5n _ _ _ hc);by_cases hk:x.k=1
 ·obtain ⟨c,rfl⟩:=ho hk;have hl:(chI c).t.toList=[c]:=(by rw [Y4];rfl);have hd:(chI c).t.data.toList=[c]:=rfl;have eq:∀ d:UInt8,c=d→((chI c).t.toList==[d])=true:=fun d e=>by rw [hl,e];simp
  have ne:∀ d:UInt8,c≠d→((chI c).t.toList==[d])=false:=fun d e=>by rw [hl,beq_eq_false_iff_ne];intro e2;injection e2 with e2 _;exact e e2
  rcases hf with rfl | rfl | rfl
  ·by_cases h62:c=62
   ·have e:N6 1 L (chI c) N=([38,103,116,59],N):=(by unfold N6;rw [if_pos ⟨rfl,hk,by rw [hd,h62]⟩]);rw [e];exact Z5f L g N _ _ _ (eq 62 h62) w h
   ·by_cases h125:c=125
    ·have e:N6 1 L (chI c) N=([38,114,98,59],N):=(by unfold N6;rw [if_neg (fun hh=>h62 (by have:=hh.2.2;rw [hd] at this;simpa using this)),if_pos ⟨rfl,hk,by rw [hd,h125]⟩]);rw [e];exact Z5g L g N _ _ _ (ne 62 h62) (eq 125 h125) w h
    ·have e : N6 1 L (chI c) N = (V3 1 (chI c), N) := by
          unfold N6;rw [if_neg (fun hh=>h62 (by have:=hh.2.2;rw [hd] at this;simpa using this)),if_neg (fun hh=>h125 (by have:=hh.2.2;rw [hd] at this;simpa using this)),if_neg (fun hh=>absurd hh.1 yX),if_neg yX]
     rw [e];exact Y5h L g N _ _ _ _ (ne 62 h62) (ne 125 h125) w h
  ·by_cases h32:c=32
   ·have e:N6 2 L (chI c) N=([92,115],N):=(by unfold N6;rw [if_neg (fun hh=>absurd hh.1 yX),if_neg (fun hh=>absurd hh.1 yX),if_pos ⟨rfl,hk,by rw [hd,h32]⟩]);rw [e];exact Z5h L g N _ _ _ (eq 32 h32) w h
   ·have e:N6 2 L (chI c) N=(92::10::X8i.getD (X0 L N 3).toNat []++V3 2 (chI c),N+1):=(by unfold N6;rw [if_neg (fun hh=>absurd hh.1 yX),if_neg (fun hh=>absurd hh.1 yX),if_neg (fun hh=>h32 (by have:=hh.2.2;rw [hd] at this;simpa using this)),if_pos rfl]);rw [e];have:=Y5i L g N (chI c).k (chI c).d (chI c).t (ofL (V3 2 (chI c))) w h (ne 32 h32) hb (by
     have:=(X1y (chI c) ho (hp yX) (fun hh=>h32 (by have:=hh.2;rw [hd] at this;simpa using this))).1;simpa [ofL] using this) ha hN
    rwa [show (ofL (V3 2 (chI c))).data.toList=V3 2 (chI c) by simp [ofL]] at this
  ·have e:N6 3 L (chI c) N=(V3 3 (chI c),N):=(by unfold N6;rw [if_neg (fun hh=>absurd hh.1 yX),if_neg (fun hh=>absurd hh.1 yX),if_neg (fun hh=>absurd hh.1 yX),if_neg yX]);rw [e];exact Y5j L g N _ _ _ _ w h
 ·have hn:=he hi hk;have n62:=X6r x.t hn 62 yX;have n125:=X6r x.t hn 125 yX;have n32:=X6r x.t hn 32 yX;rcases hf with rfl | rfl | rfl
  ·have e:N6 1 L x N=(V3 1 x,N):=by
    unfold N6;rw [if_neg (fun hh=>hk hh.2.1),if_neg (fun hh=>hk hh.2.1),if_neg (fun hh=>hk hh.2.1),if_neg yX]
   rw [e];exact Y5h L g N _ _ _ _ n62 n125 w h
  ·have e:N6 2 L x N=(92::10::X8i.getD (X0 L N 3).toNat []++V3 2 x,N+1):=by
    unfold N6;rw [if_neg (fun hh=>hk hh.2.1),if_neg (fun hh=>hk hh.2.1),if_neg (fun hh=>hk hh.2.1),if_pos rfl]
   rw [e];have:=Y5i L g N x.k x.d x.t (ofL (V3 2 x)) w h n32 hb (by
    have:=(X1y x ho (hp yX) (fun hh=>hk hh.1)).1;simpa [ofL] using this) ha hN
   rwa [show (ofL (V3 2 x)).data.toList=V3 2 x by simp [ofL]] at this
  ·have e:N6 3 L x N=(V3 3 x,N):=by
    unfold N6;rw [if_neg (fun hh=>hk hh.2.1),if_neg (fun hh=>hk hh.2.1),if_neg (fun hh=>hk hh.2.1),if_neg yX]
   rw [e];exact Y5j L g N _ _ _ _ w h
theorem Y0f (fmt:Int) (L:List Int):∀ (u v:List Tk) (N:Nat),V0 fmt L (u++v) N=((V0 fmt L u N).1++(V0 fmt L v (V0 fmt L u N).2).1,(V0 fmt L v (V0 fmt L u N).2).2)
 | [],v,N=>by simp [V0]
 | x::u,v,N=>by
   rw [List.cons_append,V0,V0,Y0f fmt L u v];simp
theorem Y9w (fmt:Int) (L:List Int) (u:List Tk) (N i:Nat) (h:i < u.length):Q2 (V0 fmt L (u.take (i+1)) N).1=Q2 (V0 fmt L (u.take i) N).1++Q2 (elS fmt L u[i] (V0 fmt L (u.take i) N).2).1∧(V0 fmt L (u.take (i+1)) N).2=(elS fmt L u[i] (V0 fmt L (u.take i) N).2).2:=by
 rw [List.take_succ_eq_append_getElem h,Y0f,P7];simp [V0,Q2]
theorem Y5s (y:Tk) (h:One y):Q9 [y]=[y]:=by
 by_cases hk:y.k=1
 ·obtain ⟨c,rfl⟩:=h hk;exact V7 (chI c) rfl (by show (1:Nat)≠0;decide)
 ·exact K6 [] y hk
theorem V5v (f:List Tk) (hn:Normal f) (i:Nat) (h:i < (Y2 f).length):slI f 0 i (i+1)=[(Y2 f)[i]]:=by
 have e:Y2 (slI f 0 i (i+1))=[(Y2 f)[i]]:=by
  rw [X0d,Nat.sub_zero,Nat.sub_zero,List.drop_take,List.drop_eq_getElem_cons h,show i+1 - i=1 by omega];rfl
 have h1:=X3s _ (Q9e i (i+1) f 0 hn);rw [e,Y5s _ (C6 f _ (List.getElem_mem h))] at h1;exact h1.symm
structure FOkW (fmt:Int) (f:List Tk):Prop where
 nrm:Normal f
 it:∀ x∈f,N0 x
 pl:fmt≠1→∀ x∈f,V5 x
 num:NumOk f 0 []
 len:f.length≤16
 li:X2 f≤160
theorem V3p (f:List Tk) (y:Tk) (h:y∈Y2 f):(∃ c,y=chI c)∨(y∈f∧y.k≠1):=by
 obtain ⟨x,hx,ha⟩:=List.mem_flatMap.1 h;unfold L4 at ha;split at ha
 ·obtain ⟨c,_,rfl⟩:=List.mem_map.1 ha;exact .inl ⟨c,rfl⟩
 ·rename_i hk;rw [List.mem_singleton.1 ha];exact .inr ⟨hx,hk⟩
theorem FOkW.one {fmt:Int} {f:List Tk} (h:FOkW fmt f) (y:Tk) (hy:y∈Y2 f):N0 y∧(fmt≠1→V5 y)∧ValF [y]∧(fmt=1→Q6t [y])∧(fmt≠1→∀ x∈[y],V5 x)∧y.t.size≤64:=by
 have ha:=C6 f y hy;rcases V3p f y hy with ⟨c,rfl⟩ | ⟨hm,hk⟩
 ·refine ⟨.inl rfl,fun _=>.inl rfl,⟨(by show 1≤512;decide),?_,⟨fun _=>⟨by show (1:Nat)≠0;decide,rfl,fun z hz=>by simp at hz⟩,trivial⟩,fun x hx=>?_,List.pairwise_singleton _ _⟩,fun _ x hx ht=>?_,fun _ x hx=>?_,by show (1:Nat)≤64;decide⟩
  ·exact Nat.le_trans (M8 [chI c] (fun x hx=>by rw [List.mem_singleton.1 hx];exact ha)) (by show 1≤1024;decide)
  ·rw [List.mem_singleton.1 hx];exact .inl rfl
  ·rw [List.mem_singleton.1 hx] at ht;exfalso;unfold N1 chI at ht;simp at ht
  ·rw [List.mem_singleton.1 hx];exact .inl rfl
 ·have hi:=h.it y hm;have he:y.t.size≤64:=by
   rcases hi with h | ⟨_,h,_⟩ | ⟨_,h,_⟩ | ⟨_,h,_⟩
   ·exact absurd h hk
   ·obtain ⟨c,r,e,_,hl,_⟩:=C8 _ h;rw [Lib.size_eq,e,List.length_cons];omega
   ·have:=(U7 _ h).1;rw [Lib.size_eq];exact this
   ·obtain ⟨c,r,e,_,hl,_⟩:=C8 _ h;rw [Lib.size_eq,e,List.length_cons];omega
  obtain ⟨_,f2,_⟩:=L6 f 0 [] h.num (fun y hy=>by simp at hy);have f3:=(Q0s f 0 []).2;have hc:=h.len;have hd:N1 y→1≤y.d∧y.d≤999:=fun ht=>by have:=f2 y hm ht;omega
  refine ⟨hi,fun hf=>h.pl hf y hm,⟨(by show 1≤512;decide),?_,⟨fun hb=>absurd hb hk,trivial⟩,fun x hx=>?_,List.pairwise_singleton _ _⟩,fun _ x hx ht=>?_,fun hf x hx=>?_,he⟩
  ·exact Nat.le_trans (M8 [y] (fun x hx=>by rw [List.mem_singleton.1 hx];exact ha)) (by show 1≤1024;decide)
  ·rw [List.mem_singleton.1 hx];rcases hi with g | g | ⟨g1,g2,_⟩ | ⟨g1,g2,_⟩
   ·exact absurd g hk
   ·exact .inr (.inl g)
   ·exact .inr (.inr (.inl ⟨g1,g2,hd (by rcases g1 with g1 | g1;exact .inl g1;exact .inr (.inr g1))⟩))
   ·exact .inr (.inr (.inr ⟨g1,g2,hd (.inr (.inl g1))⟩))
  ·rw [List.mem_singleton.1 hx] at ht ⊢;unfold N1 at ht;rcases hi with g | g | ⟨_,_,g⟩ | ⟨_,g1,g⟩
   ·omega
   ·omega
   ·exact g
   ·rw [X2y _ g1];exact g
  ·rw [List.mem_singleton.1 hx];exact h.pl hf y hm
theorem Q0f (fmt:Int) (L:List Int):∀ (u:List Tk) (N:Nat),(∀ x∈u,x.t.size≤64)→(Q2 (V0 fmt L u N).1).length≤340 * u.length
 | [],_,_=>by simp [V0,Q2]
 | x::u,N,h=>by
   have ih:=Q0f fmt L u (elS fmt L x N).2 fun y hy=>h y (by simp [hy]);have hx:=h x yW;have he:=Q1w fmt x;have h1:(Q2 (elS fmt L x N).1).length≤335:=by
    by_cases h0:X0 L N 3=0
    ·rw [(Q9u fmt L x N h0).1];unfold N6;have hb:(X8i.getD (X0 L (N+1) 3).toNat []).length≤2:=by
      have:=X7 L (N+1) 3 yX;rcases (show X0 L (N+1) 3=0∨X0 L (N+1) 3=1∨X0 L (N+1) 3=2 by omega) with e | e | e<;>rw [e]<;>decide
     split
     ·show (4:Nat)≤335;decide
     ·split
      ·show (4:Nat)≤335;decide
      ·split
       ·show (2:Nat)≤335;decide
       ·split
        ·simp only [List.length_append,List.length_cons];omega
        ·show (V3 fmt x).length≤335;omega
    ·rw [(X1x fmt L x N h0).1];omega
   rw [V0,P7,List.length_append,List.length_cons];omega
theorem X7g (fmt:Int) (hf:E7 fmt) (L:List Int) (g N:Nat) (f:List Tk) (A:Option Addr) (c:Nat) (w:World) (h:Nums w g L N) (hrd:∀ W,But g w W→RdT W (.slice A f.length c) f) (hF:FOkW fmt f) (hN:N≤100000):
 Calls Tryz.prog 133 #[.pointer (some ⟨g,0,none⟩),.int .i64 fmt,.slice A f.length c] w (X4g g L (Q2 (V0 fmt L (Y2 f) N).1,(V0 fmt L (Y2 f) N).2) w):=by
 obtain ⟨R,hB⟩:∃ R,yK (R=X4g g L (Q2 (V0 fmt L (Y2 f) N).1,(V0 fmt L (Y2 f) N).2) w):=⟨_,rfl⟩;rw [←hB.o];have Hd:=hF.len;have hU:=hF.li;have hE:=D6 f;have Ha:=zW hrd;have CL:=zW (fun W hW=>Q6q f (.slice A f.length c) W (hrd W hW) yY yY);have CSL:=zW (fun (i:Nat) (hi:i < (Y2 f).length) W hW=>by
  have:=Z0i f (.slice A f.length c) i (i+1) W (hrd W hW) yY yY yY yY;rw [V5v f hF.nrm i hi] at this;exact this)
 have hP:=zW (fun y hy=>hF.one y hy);have hO:=zW (fun y hy=>C6 f y hy);have hR:yK (∀ x∈Y2 f,x.t.size≤64):=fun y hy=>(hF.one y hy).2.2.2.2.2;have hK:=zW h;have ht:=zW hf;generalize Y2 f=u at *;rw [←hE] at CL;have Hi:u.length≤160:=yY;clear hE h hrd hF hf hU;go_enter Tryz.func133,Tryz.ntmps133
 go_wp2_with fail
 go_loopg [7,8] u.length (fun gk sv iv wr=>∃ i:Nat,iv=.int .i64 i∧sv=.string (ofL (Q2 (V0 fmt L (u.take i) N).1))∧i≤u.length∧yK (But g w wr)∧yK (Nums wr g L (V0 fmt L (u.take i) N).2)∧u.length - i≤gk)
 case atStart=>exact ⟨0,rfl,rfl,Nat.zero_le _,But.refl g w,hK.o,yQ⟩
 case round=>
  obtain ⟨i,rfl,rfl,hi,HB,HN,hgk⟩:=hrel;have CLr:=zW (CL.o _ HB.o);by_cases hlt:i < u.length
  ·have Hf:(i:Int) < (u.length:Int):=yY;have hc:=List.getElem_mem hlt;obtain ⟨o1,o2,o3,o4,o5,o6⟩:=hP.o _ hc;have hh:=hO.o _ hc;have CS:=zW (CSL.o i hlt _ HB.o);obtain ⟨e1,e2⟩:=Y9w fmt L u N i hlt;have hX:=Q0f fmt L (u.take i) N (fun x hx=>hR.o x (List.mem_of_mem_take hx));have hT:=Y2i fmt L (u.take i) N;have Hh:(u.take i).length≤160:=Nat.le_trans (List.length_take_le i u) yY;have hC:(ofL (Q2 (V0 fmt L (u.take i) N).1)).size≤60000:=(by rw [Q6];omega);have hZ:u[i].t.size≤64:=o6;have Hc:(ofL (V3 fmt u[i])).size≤1000:=(by rw [Q6];have:=Q1w fmt u[i];omega);have CE:=zW (fun (v:Value) (W:World) (hv:RdT W v [u[i]])=>V0x fmt ht.o [u[i]] v W hv o3 o4 o5);rw [show J5 fmt [u[i]]=V3 fmt u[i] by simp [J5]] at CE;generalize Q2 (V0 fmt L (u.take i) N).1=S at *;generalize (V0 fmt L (u.take i) N).2=M at *;have hM:M≤200000:=yY;have CX:=zW (fun W (hW:Nums W g L M)=>Z3 L g M 3 W hW yY yX yX);have CLG:=zW (fun W (hW:Nums W g L (M+1))=>Y9c fmt ht.o L g (M+1) u[i] W hW hh o1 o2 yY yY);have hj:yK (Q2 (V0 fmt L (u.take (i+1)) N).1=S++Q2 (elS fmt L u[i] M).1):=e1;have hl:yK ((V0 fmt L (u.take (i+1)) N).2=(elS fmt L u[i] M).2):=e2;have hb:X0 L M 3=0→(ofL (N6 fmt L u[i] (M+1)).1).size≤1000:=fun h0=>by
    have h1:=Q0f fmt L [u[i]] M (fun x hx=>by rw [List.mem_singleton.1 hx];exact hZ);have h2:Q2 (V0 fmt L [u[i]] M).1=Q2 (elS fmt L u[i] M).1:=(by simp [V0]);rw [h2,(Q9u fmt L u[i] M h0).1] at h1;rw [Q6];simp at h1;omega
   have Hb:(ofL S).size≤60000:=hC;have He:=HN.o.lt;clear e1 e2 hX hT o1 o2 o3 o4 o5 o6 hh hc hC;go_upto_region 7 with (first
    | (go_at_call 91;refine (CLr.o).mono ?_;rintro e w' ⟨rfl,rfl⟩)
    | (go_at_call 171;refine (CS.o).mono ?_;rintro e w1 ⟨v1,rfl,hI,hn⟩;have ha:=zW hI;have hr:=zW (HB.o.trans (.of_below hn));have hu:=zW (HN.o.below hn yQ);have Hj:=hn.size;clear hI hn)
    | (go_at_call 22;refine (CE.o _ _ (by exact OwnE.rd Q5 ha.o)).mono ?_;rintro e w2 ⟨rfl,ho⟩;have he:=zW (Q8 ha.o fun k hk=>ho.block k (ha.o.lt k hk).2);have hs:=zW (hr.o.trans (.of_below ho));have hw:=zW (hu.o.below ho yQ);clear ho))
   obtain ⟨A1,c1,hY⟩:=Q0 he.o;subst hY;have hz:yK (∀ k,(Value.slice A1 ([u[i]]:List Tk).length c1).ownBlock=some k→k≠g):=fun k hk=>by have:=(he.o.lt k hk).1;omega
   have hA:yK (∀ W,But g w2 W→OwnE 31 tkC 3 W wr.heap.size (.slice A1 ([u[i]]:List Tk).length c1) [u[i]]):=fun W hW=>Q8 he.o fun k hk=>hW.block k (he.o.lt k hk).2 (hz.o k hk);have hG:([u[i]]:List Tk).length=1:=rfl;rw [hG] at hA ⊢;clear he ha hr hu hz hG CE CS CLr;by_cases h0:X0 L M 3=0
   ·obtain ⟨l1,l2⟩:=Q9u fmt L u[i] M h0;have hV:=hb h0;rw [h0] at CX;have HF:yK (ofL (Q2 (V0 fmt L (u.take (i+1)) N).1)=ofL S++ofL (N6 fmt L u[i] (M+1)).1):=(by show _=_;rw [hj.o,l1,B6]);have hm:yK ((V0 fmt L (u.take (i+1)) N).2=(N6 fmt L u[i] (M+1)).2):=hl.o.trans l2;clear l1 l2 hb hj hl h0;generalize ofL (V3 fmt u[i])=eb at *;generalize u[i]=y at *;obtain ⟨yk,yt,yd⟩:=y;simp only at CLG;generalize N6 fmt L ⟨yk,yt,yd⟩ (M+1)=lg at *;obtain ⟨lb,lN⟩:=lg;simp only at hV HF hm;generalize hSb:ofL S=Sb at *;generalize hlb:ofL lb=lbb at *;go_upto_region 8 with (go_at_call 34;refine (CX.o _ (by exact hw.o)).mono ?_;rintro e w3 ⟨rfl,hd,hg⟩;have hp:=zW (hs.o.trans hd);have hq:=zW hg;have hQ:=zW (hA.o _ hd);clear hd hg)
    obtain ⟨b1,o1,hS,_,q0,q1,q2⟩:=RdT.at_ (OwnE.rd Q5 hQ.o) 0 yW;subst hS;simp only [Nat.zero_mul,Nat.add_zero,List.getElem_cons_zero] at q0 q1 q2;go_wp2_with (go_at_call 172;refine (CLG.o _ (by exact hq.o)).mono ?_;rintro e w4 ⟨rfl,hD,hH⟩;have hJ:=zW (hp.o.trans hD);have hL:=zW hH;rw [hlb];clear hD hH)
    go_roundg (u.length - (i+1))
    case measure=>omega
    case rel=>exact ⟨i+1,rfl,by rw [HF.o],hlt,hJ.o,by show Nums _ _ _ _;rw [hm.o];exact hL.o,yQ⟩
   ·obtain ⟨l1,l2⟩:=X1x fmt L u[i] M h0;have Hg:(X0 L M 3==0)=false:=(by simpa using h0);have HF:yK (ofL (Q2 (V0 fmt L (u.take (i+1)) N).1)=ofL S++ofL (V3 fmt u[i])):=(by show _=_;rw [hj.o,l1,B6]);have hm:yK ((V0 fmt L (u.take (i+1)) N).2=M+1):=hl.o.trans l2;clear l1 l2 hb hj hl h0 CLG;generalize X0 L M 3=z at *;generalize ofL (V3 fmt u[i])=eb at *;generalize hSb:ofL S=Sb at *;go_wp2_with (go_at_call 34;refine (CX.o _ (by exact hw.o)).mono ?_;rintro e w3 ⟨rfl,hd,hg⟩;have hp:=zW (hs.o.trans hd);have hq:=zW hg;clear hd hg)
    go_roundg (u.length - (i+1))
    case measure=>omega
    case rel=>exact ⟨i+1,rfl,by rw [HF.o],hlt,hp.o,by show Nums _ _ _ _;rw [hm.o];exact hq.o,yQ⟩
  ·obtain rfl:i=u.length:=yY;rw [List.take_length] at HN ⊢;go_wp2_with (go_at_call 91;refine (CLr.o).mono ?_;rintro e w' ⟨rfl,rfl⟩)
   first | go_ret | skip
   rw [hB.o];exact ⟨rfl,HB.o,HN.o⟩
def ntx (u:List Tk):Nat:=(u.filter fun x=>decide (x.k≠1)).length
theorem V4l (a b:List Tk):ntx (a++b)=ntx a+ntx b:=by unfold ntx;rw [List.filter_append,List.length_append]
theorem Z2p:∀ f:List Tk,ntx (Y2 f)≤f.length
 | []=>yQ
 | x::f=>by
   have ih:=Z2p f;rw [R8,V4l,List.length_cons];have h1:ntx (L4 x)≤1:=by
    unfold L4;split
    ·unfold ntx;have:(x.t.data.toList.map chI).filter (fun x=>decide (x.k≠1))=[]:=by
      rw [List.filter_eq_nil_iff];intro y hy;obtain ⟨c,_,rfl⟩:=List.mem_map.1 hy;simp [chI]
     rw [this];exact Nat.zero_le _
    ·exact List.length_filter_le _ _
   omega
theorem X3m (fmt:Int) (c:UInt8):(V3 fmt (chI c)).length≤5:=by
 rw [X4j];exact Q9x fmt c
theorem V3g (fmt:Int) (L:List Int) (x:Tk) (N:Nat) (ho:One x) (hx:x.t.size≤64):(Q2 (elS fmt L x N).1).length≤(if x.k=1 then 9 else 340):=by
 have h1:=Q0f fmt L [x] N (fun y hy=>by rw [List.mem_singleton.1 hy];exact hx);have h2:Q2 (V0 fmt L [x] N).1=Q2 (elS fmt L x N).1:=(by simp [V0]);rw [h2] at h1;by_cases hk:x.k=1
 ·rw [if_pos hk];obtain ⟨c,rfl⟩:=ho hk;have he:=X3m fmt c;by_cases h0:X0 L N 3=0
  ·rw [(Q9u fmt L (chI c) N h0).1];unfold N6;have hb:(X8i.getD (X0 L (N+1) 3).toNat []).length≤2:=by
    have:=X7 L (N+1) 3 yX;rcases (show X0 L (N+1) 3=0∨X0 L (N+1) 3=1∨X0 L (N+1) 3=2 by omega) with e | e | e<;>rw [e]<;>decide
   split
   ·show (4:Nat)≤9;decide
   ·split
    ·show (4:Nat)≤9;decide
    ·split
     ·show (2:Nat)≤9;decide
     ·split
      ·simp only [List.length_append,List.length_cons];omega
      ·show (V3 fmt (chI c)).length≤9;omega
  ·rw [(X1x fmt L (chI c) N h0).1];omega
 ·rw [if_neg hk];simpa using h1
theorem X7f (fmt:Int) (L:List Int):∀ (u:List Tk) (N:Nat),(∀ x∈u,One x∧x.t.size≤64)→(Q2 (V0 fmt L u N).1).length≤9 * u.length+340 * ntx u
 | [],_,_=>by simp [V0,Q2]
 | x::u,N,h=>by
   have ih:=X7f fmt L u (elS fmt L x N).2 fun y hy=>h y (by simp [hy]);have h1:=V3g fmt L x N (h x yW).1 (h x yW).2;have h2:ntx (x::u)=(if x.k=1 then 0 else 1)+ntx u:=by
    unfold ntx;by_cases hk:x.k=1
    ·rw [List.filter_cons_of_neg (by simp [hk]),if_pos hk,Nat.zero_add]
    ·rw [List.filter_cons_of_pos (by simp [hk]),if_neg hk,List.length_cons];omega
   rw [V0,P7,List.length_append,List.length_cons,h2];split at h1
   ·rename_i hk;rw [if_pos hk];omega
   ·rename_i hk;rw [if_neg hk];omega
theorem Z9b (fmt:Int) (hf:E7 fmt) (L:List Int) (N:Nat):FOkW fmt (U3 (decide (fmt=1)) L N ((5:Nat):Int)).1:=by
 obtain ⟨h1,h2,h3,h4,h5,h6⟩:=Q5t (decide (fmt=1)) L N 5 yX;refine ⟨h1,h2,fun ha=>?_,h3,h4,h5⟩;have e:decide (fmt=1)=false:=(by simpa using ha);rw [e];exact (X3o L N 5 yX).2.1
theorem X1o (fmt:Int) (hf:E7 fmt) (L:List Int) (N:Nat):(Q2 (E8 fmt L N).1).length≤6880∧(X1 (E8 fmt L N).1).length≤160∧ntx (X1 (E8 fmt L N).1)≤16:=by
 have hF:=Z9b fmt hf L N;obtain ⟨_,h2,_⟩:=Q0x fmt hf L N;have h3:(Q2 (E8 fmt L N).1).length≤9 * (Y2 (U3 (decide (fmt=1)) L N ((5:Nat):Int)).1).length+340 * ntx (Y2 (U3 (decide (fmt=1)) L N ((5:Nat):Int)).1):=
  X7f fmt L _ _ fun x hx=>⟨C6 _ x hx,(hF.one x hx).2.2.2.2.2⟩
 have h4:=Z2p (U3 (decide (fmt=1)) L N ((5:Nat):Int)).1;have h5:=hF.len;have h6:=hF.li;rw [D6] at h3;rw [h2,D6];exact ⟨yY,h6,yY⟩
/-! ### The document -/
theorem Q3k:∀ (a b:List MK) (k:Nat),R4 k a→R4 (k+K9 a) b→R4 k (a++b)
 | [],b,k,_,h=>h
 | .blk _ _ _::a,b,k,h1,h2=>⟨h1.1,h1.2.1,Q3k a b (k+1) h1.2.2 (by rw [show k+1+K9 a=k+(K9 a+1) by omega];exact h2)⟩
 | .byte _::a,b,k,h1,h2=>Q3k a b k h1 h2
 | .note::a,b,k,h1,h2=>Q3k a b k h1 h2
 | .tag _::a,b,k,h1,h2=>Q3k a b k h1 h2
theorem Q2c:∀ (a:List MK) (k:Nat),(∀ m∈a,∀ t key ts,m≠.blk t key ts)→R4 k a∧K9 a=0
 | [],_,_=>⟨trivial,rfl⟩
 | .blk t key ts::a,k,h=>absurd rfl (h _ yW t key ts)
 | .byte _::a,k,h=>Q2c a k fun m hm=>h m (by simp [hm])
 | .note::a,k,h=>Q2c a k fun m hm=>h m (by simp [hm])
 | .tag _::a,k,h=>Q2c a k fun m hm=>h m (by simp [hm])
theorem Y1h (k:Nat) (h:k < 10):Q0z k=Lib.decDigits k:=(Lib.decDigits_one h).symm
theorem Y5o (L:List Int):∀ (i k:Nat) (ms:List MK) (N:Nat),k+i≤8→R4 0 ms→K9 ms=k→R4 0 (X2n L i k ms N).1∧K9 (X2n L i k ms N).1=k+i
 | 0,k,ms,N,_,h1,h2=>⟨h1,h2⟩
 | i+1,k,ms,N,hk,h1,h2=>by
   rw [X2n];generalize E8 1 L N=u;have ha:=X7 L (u.2+2) 3 yX;obtain ⟨s1,s2⟩:=Q2c (Q8f.getD (X0 L (u.2+2) 3).toNat []) (k+1) (fun m hm=>(Y2u _ yY m hm).2);have hK:R4 0 (ms++(.blk (Q2t.getD (X0 L u.2 3).toNat []++Q3h.getD (X0 L (u.2+1) 2).toNat []) (Q0z (k+1)) u.1::Q8f.getD (X0 L (u.2+2) 3).toNat [])):=by
    refine Q3k ms _ 0 h1 ?_;rw [Nat.zero_add,h2];exact ⟨Y1h _ yY,yY,s1⟩
   obtain ⟨r1,r2⟩:=Y5o L i (k+1) _ (u.2+3) yY hK (by
    rw [Q3i,h2];show k+(K9 (Q8f.getD (X0 L (u.2+2) 3).toNat [])+1)=k+1;rw [s2])
   exact ⟨r1,by rw [r2];omega⟩
theorem Y0q (L:List Int) (h:Nat):∀ (i k:Nat) (rs:List Rc) (N:Nat),k+i≤8→rs.length=k→(∀ j r,rs[j]? =some r→r.key=Lib.decDigits (j+1))→(∀ j r,(X2u L h i k rs N).1[j]? =some r→r.key=Lib.decDigits (j+1))∧(X2u L h i k rs N).1.length=k+i
 | 0,k,rs,N,_,h2,h1=>⟨h1,h2⟩
 | i+1,k,rs,N,hk,h2,h1=>by
   rw [X2u];generalize E8 3 L N=u;obtain ⟨r1,r2⟩:=Y0q L h i (k+1) (rs++[⟨rcA.getD h [],Q0z (k+1),u.1,rcB.getD h []⟩]) u.2 yY (by simp [h2]) (fun j r hj=>by
    by_cases hjl:j < rs.length
    ·rw [List.getElem?_append_left hjl] at hj;exact h1 j r hj
    ·rw [List.getElem?_append_right yY] at hj;obtain ⟨hz,hv⟩:=List.getElem?_eq_some_iff.1 hj;simp at hz;have ha:j=k:=yY;subst ha;simp at hv;rw [←hv];exact Y1h _ yY)
   exact ⟨r1,by rw [r2];omega⟩
theorem V3t (h:Nat) (hh:h < 3):(hdA.getD h []).length=(rcA.getD h []).length∧(hdB.getD h []).length=(rcB.getD h []).length∧(hdA.getD h []).length+1+(hdB.getD h []).length≤90:=by
 rcases (show h=0∨h=1∨h=2 by omega) with rfl | rfl | rfl<;>exact ⟨rfl,rfl,yX⟩
theorem V9i (h:Nat) (hh:h < 3):(∀ f∈hdA.getD h [],Q5m f∧Q3u f≠P8)∧(∀ f∈hdB.getD h [],Q5m f∧Q3u f≠P8)∧(∀ f∈rcA.getD h [],Q5m f)∧(∀ f∈rcB.getD h [],Q5m f):=by
 rcases (show h=0∨h=1∨h=2 by omega) with rfl | rfl | rfl
 ·exact ⟨fun f hf=>by simp [hdA] at hf,fun f hf=>by simp [hdB] at hf,fun f hf=>by simp [rcA] at hf,fun f hf=>by simp [rcB] at hf⟩
 ·refine ⟨fun f hf=>?_,fun f hf=>by simp [hdB] at hf,fun f hf=>?_,fun f hf=>by simp [rcB] at hf⟩
  ·have:f=.bare [105,100]:=(by simpa [hdA] using hf);rw [this];exact ⟨by show ∀ c∈([105,100]:List UInt8),_;decide,yX⟩
  ·have:f=.bare [55]:=(by simpa [rcA] using hf);rw [this];show ∀ c∈([55]:List UInt8),_;decide
 ·refine ⟨fun f hf=>?_,fun f hf=>?_,fun f hf=>?_,fun f hf=>?_⟩
  ·have:f=.quo [97,44,98]:=(by simpa [hdA] using hf);rw [this];exact ⟨by show ∀ c∈([97,44,98]:List UInt8),_;decide,yX⟩
  ·have:f=.bare [99]:=(by simpa [hdB] using hf);rw [this];exact ⟨by show ∀ c∈([99]:List UInt8),_;decide,yX⟩
  ·have:f=.bare [120]:=(by simpa [rcA] using hf);rw [this];show ∀ c∈([120]:List UInt8),_;decide
  ·have:f=.quo [121]:=(by simpa [rcB] using hf);rw [this];show ∀ c∈([121]:List UInt8),_;decide
def F2 (L:List Int) (N n:Nat) (fmt:Int):DS:=
 let h:=(X0 L N 3).toNat
 let m:=(X0 L (N+1) ((n:Int)+1)).toNat
 if fmt=1 then .mk (X2n L m 0 (X4e.getD h []) (N+2)).1
 else if fmt=2 then .rs (X7j L m (X6z.getD h []) (N+2)).1
 else .sh (hdA.getD h []) (hdB.getD h []) (X2u L h m 0 [] (N+2)).1
theorem Z9o (i:Nat) (h:i≤8):(X6d i).Nodup:=by
 rcases (show i=0∨i=1∨i=2∨i=3∨i=4∨i=5∨i=6∨i=7∨i=8 by omega) with rfl | rfl | rfl | rfl | rfl | rfl | rfl | rfl | rfl<;>decide
theorem X2i:∀ i:Nat,(X6d i).length=i
 | 0=>rfl
 | i+1=>by rw [X6d,List.length_cons,X2i i]
theorem Y5l (L:List Int) (N n:Nat) (hn:n≤3) (fmt:Int) (hf:E7 fmt):(F2 L N n fmt).Ok∧(F2 L N n fmt).fmt=fmt∧(F2 L N n fmt).un.1.length≤3:=by
 have ha:=X7 L N 3 yX;have hb:=X7 L (N+1) ((n:Int)+1) yY;have hh:(X0 L N 3).toNat < 3:=yY;have hm:(X0 L (N+1) ((n:Int)+1)).toNat≤3:=yY;unfold F2;generalize (X0 L N 3).toNat=h at hh;generalize (X0 L (N+1) ((n:Int)+1)).toNat=m at hm;rcases hf with rfl | rfl | rfl
 ·simp only [if_pos];obtain ⟨p1,p2⟩:=Q2c (X4e.getD h []) 0 (fun x hx=>(Y2g h hh x hx).2);obtain ⟨k1,k2⟩:=Y5o L m 0 (X4e.getD h []) (N+2) yY p1 p2;obtain ⟨k3,_⟩:=Z2o L m 0 (X4e.getD h []) (N+2) (fun x hx=>(Y2g h hh x hx).1);refine ⟨⟨k3,k1⟩,rfl,?_⟩;show (Y5 _).1.length≤3;rw [M3,k2];omega
 ·rw [if_neg yX,if_pos rfl];obtain ⟨s1,s2⟩:=Z2w h hh;obtain ⟨k1,k2,_⟩:=Z3f L m (X6z.getD h []) (N+2) yY s1;rw [s2,List.nil_append] at k2;refine ⟨⟨k1,by rw [k2];exact Z9o m yY,by rw [k2,X2i];omega⟩,rfl,?_⟩;show (Y0 _).1.length≤3;rw [Q0c,k2,X2i];exact hm
 ·rw [if_neg yX,if_neg yX];obtain ⟨a1,a2,a3⟩:=V3t h hh;obtain ⟨b1,b2,b3,b4⟩:=V9i h hh;obtain ⟨k1,k2⟩:=Y0q L h m 0 [] (N+2) yY rfl (fun j r hj=>by simp at hj);obtain ⟨k3,_⟩:=Z3l L h m 0 [] (N+2) (fun r hr=>by simp at hr);refine ⟨⟨b1,b2,fun r hr=>?_,k1,by rw [k2];omega,a3⟩,rfl,?_⟩
  ·obtain ⟨e1,e2,e3⟩:=k3 r hr;exact ⟨by rw [e1,a1],by rw [e2,a2],by rw [e1];exact b3,by rw [e2];exact b4,e3⟩
  ·show (Z4 _ _ _).1.length≤3;rw [Q1r,k2];omega
theorem Z9q:(⟨#[60,112,62,83,97,118,101,46,32,60,98,62,82,101,100,60,47,98,62,32,99,97,114,33,60,47,112,62]⟩:ByteArray)=ofL (Z0 S7):=by rw [Y1t,Y1s];rfl
theorem Z5b:ofL (Z0 X0j)=(⟨#[60,112,62,83,105,99,104,101,114,110,46,32,60,98,62,82,101,100,60,47,98,62,32,99,97,114,33,60,47,112,62]⟩:ByteArray):=by rw [X6f];rfl
theorem Z4n {a:Act} {w:World} {o:Oper} (t:ByteArray) (ho:o.op=.build 31 #[(0,.const (.int .i64 1)),(1,.const (.string t))]):(execOp a.eval o).run Tryz.prog w=.ok (.value (.agg #[.int .i64 1,.string t,.int .i64 0])) w:=by
 have h1:a.eval (.const (.int .i64 1))=.int .i64 1:=rfl;have h2:a.eval (.const (.string t))=.string t:=rfl;generalize a.eval=ρ at h1 h2 ⊢;unfold execOp;simp only [ho];go_simp
theorem X0b {a:Act} {w:World} {o:Oper} (x:Operand) (t:ByteArray) (ho:o.op=.buildSlice 24 1 #[(0,x)]) (hx:a.eval x=.agg #[.int .i64 1,.string t,.int .i64 0]):(execOp a.eval o).run Tryz.prog w=.ok (.value (.slice (some ⟨w.heap.size,0,none⟩) 1 1)) (w.alloc (.cells #[.int .i64 1,.string t,.int .i64 0] 31)):=by
 generalize a.eval=ρ at hx ⊢;unfold execOp;simp only [ho];go_simp
theorem X0a {a:Act} {w:World} {o:Oper} (x:Operand) (A:Option Addr) (n c:Nat) (ho:o.op=.buildSlice 48 1 #[(0,x)]) (hx:a.eval x=.slice A n c):(execOp a.eval o).run Tryz.prog w=.ok (.value (.slice (some ⟨w.heap.size,0,none⟩) 1 1)) (w.alloc (.cells #[.slice A n c] 24)):=by
 generalize a.eval=ρ at hx ⊢;unfold execOp;simp only [ho];go_simp
theorem X9r {P:Program} {w:World} {a:Act} {o:Oper} {f:FuncId} {x y z u:Operand} (ts:Array TypeId) {vx vy vz vu:Value} (ho:o.op=.call { callee:=.value (.func f),args:=#[x,y,z,u],argTypes:=ts }) (hx:a.eval x=vx) (hy:a.eval y=vy) (hz:a.eval z=vz) (hu:a.eval u=vu) (he:(callFunc f #[vx,vy,vz,vu]).run P w=.ok (.enter f #[vx,vy,vz,vu]) w):(execOp a.eval o).run P w=.ok (.enter f #[vx,vy,vz,vu]) w:=by
 have hf:a.eval (.func f)=.func (.func f) #[] #[]:=rfl;generalize a.eval=ρ at hx hy hz hu hf ⊢;unfold execOp;simp only [ho];go_simp
theorem X1a (w:World) (gi:Nat) (f:List Tk) (hf:f.length=1) (h:RdT w (.slice (some ⟨gi,0,none⟩) 1 1) f):RdTT (w.alloc (.cells #[.slice (some ⟨gi,0,none⟩) 1 1] 24)) (.slice (some ⟨w.heap.size,0,none⟩) 1 1) [f]:=by
 refine ⟨_,1,rfl,fun _=>⟨_,_,rfl,by simp,fun i x hi=>?_⟩⟩;have ha:(w.alloc (.cells #[.slice (some ⟨gi,0,none⟩) 1 1] 24)).heap[w.heap.size]? =some (.cells #[.slice (some ⟨gi,0,none⟩) 1 1] 24):=Array.getElem?_push_size;rcases i with _ | i
 ·simp at hi;subst hi;exact ⟨some ⟨gi,0,none⟩,1,by rw [cell_of_row _ _ _ _ _ _ ha,hf];rfl,by rw [hf];exact RdE.below h ((Below.refl w.heap.size w).alloc yQ _) yQ⟩
 ·simp at hi
theorem X3y:Z7k [I1]:=⟨yX,fun r hr=>by
 rw [List.mem_singleton.1 hr];refine ⟨⟨yX,yX⟩,fun x hx=>?_,fun x hx=>?_⟩<;>(obtain rfl:=List.mem_singleton.1 hx;exact ⟨yX,rfl⟩)⟩
theorem Y2z (m:Int) (w:World) (hm:w.cell? ⟨0,0,none⟩=some (.int .i64 m)):
 Calls Tryz.prog 7 #[] w (fun e w'=>e=.returned (.bool true)∧Below w.heap.size w w'):=by
 have he:X8u m 1 (⟨#[60,112,62,83,97,118,101,46,32,60,98,62,82,101,100,60,47,98,62,32,99,97,114,33,60,47,112,62]⟩:ByteArray) S7:=(by rw [Z9q];exact Z9t m);obtain ⟨n,hd⟩:=V7k m;have CP:=zW (X5l m 1 (.inl rfl) _ S7 he w hm);have CC:=zW (fun (A:Option Addr) (c:Nat) (W:World) (hW:Below w.heap.size w W) (hr:RdE ptC 3 W (.slice A S7.length c) S7)=>Q0l m 1 (.inl rfl) S7 knF 1 yX rfl (by rw [V7h,←V4e];exact hd.dec) A c W (X6 hm hW) hr yX);have CS:=zW (fun W=>Y7e W);have CR:=zW (fun (vr v:Value) (W:World) (h1:RdRu W vr [I1]) (h2:RdT W v knF)=>X7d [I1] vr knF v W h1 X3y h2 yX yX);rw [Z5d] at CR;rw [Y5b] at CC;have CRP:=zW (fun (A:Option Addr) (c b5 o5 c5:Nat) (gt:Nat) (W:World) (hW:Below w.heap.size w W) (hp:RdE ptC 3 W (.slice A 3 c) S7) (hs:RdE Y6 2 W (.slice (some ⟨b5,o5,none⟩) 2 c5) [(0,5),(6,16)]) (ht:RdTT W (.slice (some ⟨gt,0,none⟩) 1 1) [knG])=>
  (X3x hd A (some ⟨b5,o5,none⟩) (some ⟨gt,0,none⟩) c c5 1 W (X6 hm hW) hp (RdE.take hs 1 yX) ht:Calls Tryz.prog 32 #[.agg #[.int .i64 1,.slice A 3 c],.int .i64 1,.slice (some ⟨b5,o5,none⟩) 1 c5,.slice (some ⟨gt,0,none⟩) 1 1] W (fun e w'=>∃ A' c',e=.returned (.tuple #[.agg #[.int .i64 1,.slice A' 3 c'],.int .i64 0])∧OwnE 52 ptC 3 w' W.heap.size (.slice A' 3 c') X0j∧Below W.heap.size W w')))
 have CB:=zW (fun (A:Option Addr) (c:Nat) (W:World) (h:RdE ptC 3 W (.slice A 3 c) X0j)=>Q6v 1 X0j A c W h yX (by rw [X6f];decide));rw [Z5b] at CB;have HM:=zW hm;clear hm he;go_enter Tryz.func7,Tryz.ntmps7
 go_wp2_with (first
  | (go_at_call 28;refine (CP.o).mono ?_;rintro e W1 ⟨A,c,rfl,hu,hM⟩;rw [Y5b] at hu ⊢;have hC:=zW (OwnE.rd K0 hu);have hk:=zW hM;have hq:=zW (RdE.below hC.o ((Below.refl W1.heap.size W1).alloc yQ (.cells #[.int .i64 1,.slice A 3 c] 41)) yQ);have hf:=zW (hk.o.alloc hk.o.size (.cells #[.int .i64 1,.slice A 3 c] 41));have hI:yK ((W1.alloc (.cells #[.int .i64 1,.slice A 3 c] 41)).heap[W1.heap.size]? =some (.cells #[.int .i64 1,.slice A 3 c] 41)):=heap_alloc_new W1 _;clear hu hM)
  | (go_at_call 27;refine (CC.o A c _ (by exact hf.o) (by exact hq.o)).mono ?_;rintro e W3 ⟨v3,rfl,hw,hh⟩;obtain ⟨A3,c3,rfl⟩:=Q0 hw;have hA:=zW (OwnE.rd Q5 hw);have hD:=zW (RdE.below hq.o hh yQ);have hl:=zW (hf.o.trans (hh.mono hf.o.size));have hJ:=zW (Q4 hI.o hh);clear hw hh)
  | (go_at_call 19;refine (CS.o _).mono ?_;rintro e W4 ⟨v4,rfl,hO,ha⟩;have hG:=zW hO;have hB:=zW (RdE.below hA.o ha yQ);have hE:=zW (RdE.below hD.o ha yQ);have hn:=zW (hl.o.trans (ha.mono hl.o.size));have hK:=zW (Q4 hJ.o ha);clear hO ha)
  | (go_at_call 31;refine (CR.o _ _ _ (by exact hG.o) (by exact hB.o)).mono ?_;rintro e W5 ⟨v5,rfl,hx,hi⟩;obtain ⟨A5,c5,rfl⟩:=Q0 hx;have hg:=zW (OwnE.rd W8 hx);have hF:=zW (RdE.below hE.o hi yQ);have hy:=zW (hn.o.trans (hi.mono hn.o.size));have hL:=zW (Q4 hK.o hi);obtain ⟨b5,o5,rfl,_,q0,q1⟩:=X7h hg.o 1 yX;clear hx hi))
 have hU:1≤c5:=by
  obtain ⟨_,_,hv,hc,_⟩:=hg.o;injection hv with _ _ e;subst e;exact Nat.le_trans yX hc
 have hV:¬ ((c5:Int) < 1):=yY;have hP:yK (Below w.heap.size w W5.drew):=hy.o.drew;have hH:yK (W5.drew.heap[W1.heap.size]? =some (.cells #[.int .i64 1,.slice A 3 c] 41)):=hL.o;have hR:=zW (RdE.below hF.o ((Below.refl W5.heap.size W5).drew) yQ);have hT:=zW (RdE.below hg.o ((Below.refl W5.heap.size W5).drew) yQ);generalize W1.heap.size=g at hH ⊢;replace CRP:=zW (fun gt W=>CRP.o A c b5 o5 c5 gt W)
 clear hy hL hF hg hn hK hE hB hl hJ hD hA hf hI hq hk hC hG q0 q1;refine zqR (l0:=bL 13 0) 13 kr ?_;show let o:=_;let q:=_;let a0:=_;wpAny Tryz.prog _ o q _ _ a0 _
 intro o q a0;let a_:Act:=((a0.put (some 40) (.slice (some ⟨b5,o5,none⟩) 2 c5)).put (some 41) (.slice (some ⟨b5,o5,none⟩) 1 c5)).put (some 42) (.agg #[.int .i64 1,.string (⟨#[83,105,99,104,101,114,110,46]⟩:ByteArray),.int .i64 0])
 let a_0:Act:=a_.put (some 39) (.agg #[.int .i64 1,.slice A 3 c])
 let a_1:Nat→Act:=fun gi=>a_.put (some 43) (.slice (some ⟨gi,0,none⟩) 1 1)
 let a_4:Nat→Act:=fun g7=>a_.put (some 7) (.pointer (some ⟨g7,0,none⟩))
 let a_01:Nat→Act:=fun gi=>a_0.put (some 43) (.slice (some ⟨gi,0,none⟩) 1 1)
 let a_04:Nat→Act:=fun g7=>a_0.put (some 7) (.pointer (some ⟨g7,0,none⟩))
 let a_12:Nat→Nat→Act:=fun gi gt=>(a_1 gi).put (some 44) (.slice (some ⟨gt,0,none⟩) 1 1)
 let a_14:Nat→Nat→Act:=fun gi g7=>(a_1 gi).put (some 7) (.pointer (some ⟨g7,0,none⟩))
 let a_012:Nat→Nat→Act:=fun gi gt=>(a_01 gi).put (some 44) (.slice (some ⟨gt,0,none⟩) 1 1)
 let a_014:Nat→Nat→Act:=fun gi g7=>(a_01 gi).put (some 7) (.pointer (some ⟨g7,0,none⟩))
 let a_124:Nat→Nat→Nat→Act:=fun gi gt g7=>(a_12 gi gt).put (some 7) (.pointer (some ⟨g7,0,none⟩))
 let a_0123:Nat→Nat→Option Addr→Nat→Act:=fun gi gt A8 c8=>((((a_012 gi gt).put (some 45) (.tuple #[.agg #[.int .i64 1,.slice A8 3 c8],.int .i64 0])).put (some 38) (.tuple #[.agg #[.int .i64 1,.slice A8 3 c8],.int .i64 0])).put (some 46) (.agg #[.int .i64 1,.slice A8 3 c8])).put (some 47) (.int .i64 0)
 let a_0124:Nat→Nat→Nat→Act:=fun gi gt g7=>(a_012 gi gt).put (some 7) (.pointer (some ⟨g7,0,none⟩))
 let a_01234:Nat→Nat→Option Addr→Nat→Nat→Act:=fun gi gt A8 c8 g7=>(a_0123 gi gt A8 c8).put (some 7) (.pointer (some ⟨g7,0,none⟩))
 let a_012345:Nat→Nat→Option Addr→Nat→Nat→Act:=fun gi gt A8 c8 g7=>(a_01234 gi gt A8 c8 g7).put (some 8) (.int .i64 0)
 have S012345:∀ (W:World) (gi:Nat) (gt:Nat) (A8:Option Addr) (c8:Nat) (g7:Nat),Below w.heap.size w W→W.heap[g7]? =some (.cells #[.int .i64 1,.slice A8 3 c8] 41)→OwnE 52 ptC 3 W w.heap.size (.slice A8 3 c8) X0j→wpAny Tryz.prog .any o q 0 (bL 13 8191) (a_012345 gi gt A8 c8 g7) W:=by
  intro W gi gt A8 c8 g7 HB HG HO;simp only [a_012345,a_01234,a_0123,a_012,a_01,a_0,a_,a0,Act.put,zZ,zY,zX];refine wpAny_done yZ ?_ _;simp only [q];obtain ⟨z0,z1,_⟩:=bx2 HG;have hS:=zW (OwnE.rd K0 HO);have hz:=zW HB;clear HB HO HG;go_wp2_with (go_at_call 24;refine (CB.o _ _ _ (by exact hS.o)).mono ?_;rintro e V9 ⟨rfl,hN⟩;have hQ:=zW (hz.o.trans (hN.mono hz.o.size));clear hN)
  go_ret
  exact ⟨rfl,hQ.o⟩
 have S01234:∀ (W:World) (gi:Nat) (gt:Nat) (A8:Option Addr) (c8:Nat) (g7:Nat),Below w.heap.size w W→W.heap[g7]? =some (.cells #[.int .i64 0,.slice none 0 0] 41)→w.heap.size≤g7→OwnE 52 ptC 3 W w.heap.size (.slice A8 3 c8) X0j→wpAny Tryz.prog .any o q 2 (bL 13 2047) (a_01234 gi gt A8 c8 g7) W:=by
  intro W gi gt A8 c8 g7 HB HG hg7 HO;simp only [a_01234,a_0123,a_012,a_01,a_0,a_,a0,Act.put,zZ,zY,zX];refine zqo 11 rfl ?_;refine X3i (.tmp 7) (.tmp 46) rfl rfl g7 1 A8 3 c8 yZ yZ HG ?_;refine zqG 12 8 (.int .i64 0) rfl ?_;exact zqX (S012345 ((W.setCell ⟨g7,0,none⟩ (.int .i64 1)).setCell ⟨g7,1,none⟩ (.slice A8 3 c8)) gi gt A8 c8 g7 ((HB.setCell (p:=⟨g7,0,none⟩) hg7 _).setCell (p:=⟨g7,1,none⟩) hg7 _) (Q7x HG) (Q8 HO fun j hj=>G2 (fun e=>Y1 HO HG yX j hj e)))
 have S0123:∀ (W:World) (gi:Nat) (gt:Nat) (A8:Option Addr) (c8:Nat),Below w.heap.size w W→OwnE 52 ptC 3 W w.heap.size (.slice A8 3 c8) X0j→wpAny Tryz.prog .any o q 3 (bL 13 1023) (a_0123 gi gt A8 c8) W:=by
  intro W gi gt A8 c8 HB HO;simp only [a_0123,a_012,a_01,a_0,a_,a0,Act.put,zZ,zY,zX];refine zqo 10 rfl ?_;refine Q7 (U4 rfl) ?_;exact zqX (S01234 (W.alloc (.cells #[.int .i64 0,.slice none 0 0] 41)) gi gt A8 c8 W.heap.size (HB.trans (((Below.refl W.heap.size W).alloc yQ _).mono HB.size)) (heap_alloc_new W _) HB.size (Q6e HO ((Below.refl W.heap.size W).alloc yQ _)))
 have S0124:∀ (W:World) (gi:Nat) (gt:Nat) (g7:Nat),Below w.heap.size w W→RdE ptC 3 W (.slice A 3 c) S7→RdE Y6 2 W (.slice (some ⟨b5,o5,none⟩) 2 c5) [(0,5),(6,16)]→RdTT W (.slice (some ⟨gt,0,none⟩) 1 1) [knG]→W.heap[g7]? =some (.cells #[.int .i64 0,.slice none 0 0] 41)→w.heap.size≤g7→wpAny Tryz.prog .any o q 6 (bL 13 1087) (a_0124 gi gt g7) W:=by
  intro W gi gt g7 HB HP HS HT HG hg7;simp only [a_0124,a_012,a_01,a_0,a_,a0,Act.put,zZ,zY,zX];refine zqo 6 rfl ?_;refine J0 (X9r _ rfl yZ yZ yZ yZ (enters_of Tryz.func32 yZ rfl _ _)) (CRP.o gt W HB HP HS HT) ?_;rintro e W5 ⟨A8,c8,rfl,ho,hb⟩;refine ⟨.tuple #[.agg #[.int .i64 1,.slice A8 3 c8],.int .i64 0],rfl,?_⟩;refine zqM 7 38 (.tuple #[.agg #[.int .i64 1,.slice A8 3 c8],.int .i64 0]) rfl ?_;refine zqE 8 46 (.agg #[.int .i64 1,.slice A8 3 c8]) rfl rfl ?_;refine zqE 9 47 (.int .i64 0) rfl rfl ?_;exact zqX (S01234 W5 gi gt A8 c8 g7 (HB.trans (hb.mono HB.size)) (Q4 HG hb) hg7 (Y7 ho HB.size))
 have S012:∀ (W:World) (gi:Nat) (gt:Nat),Below w.heap.size w W→RdE ptC 3 W (.slice A 3 c) S7→RdE Y6 2 W (.slice (some ⟨b5,o5,none⟩) 2 c5) [(0,5),(6,16)]→RdTT W (.slice (some ⟨gt,0,none⟩) 1 1) [knG]→wpAny Tryz.prog .any o q 7 (bL 13 63) (a_012 gi gt) W:=by
  intro W gi gt HB HP HS HT;simp only [a_012,a_01,a_0,a_,a0,Act.put,zZ,zY,zX];refine zqt 6 10 rfl rfl ?_ ?_
  ·refine J0 (X9r _ rfl yZ yZ yZ yZ (enters_of Tryz.func32 yZ rfl _ _)) (CRP.o gt W HB HP HS HT) ?_;rintro e W5 ⟨A8,c8,rfl,ho,hb⟩;refine ⟨.tuple #[.agg #[.int .i64 1,.slice A8 3 c8],.int .i64 0],rfl,?_⟩;refine zqM 7 38 (.tuple #[.agg #[.int .i64 1,.slice A8 3 c8],.int .i64 0]) rfl ?_;refine zqE 8 46 (.agg #[.int .i64 1,.slice A8 3 c8]) rfl rfl ?_;refine zqE 9 47 (.int .i64 0) rfl rfl ?_;exact zqX (S0123 W5 gi gt A8 c8 (HB.trans (hb.mono HB.size)) (Y7 ho HB.size))
  ·refine Q7 (U4 rfl) ?_;exact zqX (S0124 (W.alloc (.cells #[.int .i64 0,.slice none 0 0] 41)) gi gt W.heap.size (HB.trans (((Below.refl W.heap.size W).alloc yQ _).mono HB.size)) (RdE.below HP ((Below.refl W.heap.size W).alloc yQ _) yQ) (RdE.below HS ((Below.refl W.heap.size W).alloc yQ _) yQ) (RdTT.below HT ((Below.refl W.heap.size W).alloc yQ _) yQ) (heap_alloc_new W _) HB.size)
 have S014:∀ (W:World) (gi:Nat) (g7:Nat),Below w.heap.size w W→RdE ptC 3 W (.slice A 3 c) S7→RdE Y6 2 W (.slice (some ⟨b5,o5,none⟩) 2 c5) [(0,5),(6,16)]→RdT W (.slice (some ⟨gi,0,none⟩) 1 1) knG→W.heap[g7]? =some (.cells #[.int .i64 0,.slice none 0 0] 41)→w.heap.size≤g7→wpAny Tryz.prog .any o q 7 (bL 13 1055) (a_014 gi g7) W:=by
  intro W gi g7 HB HP HS HI HG hg7;simp only [a_014,a_01,a_0,a_,a0,Act.put,zZ,zY,zX];refine zqo 5 rfl ?_;refine Q7 (X0a (.tmp 43) (some ⟨gi,0,none⟩) 1 1 rfl yZ) ?_;exact zqX (S0124 (W.alloc (.cells #[.slice (some ⟨gi,0,none⟩) 1 1] 24)) gi W.heap.size g7 (HB.trans (((Below.refl W.heap.size W).alloc yQ _).mono HB.size)) (RdE.below HP ((Below.refl W.heap.size W).alloc yQ _) yQ) (RdE.below HS ((Below.refl W.heap.size W).alloc yQ _) yQ) (X1a W gi knG rfl HI) (Q4 HG ((Below.refl W.heap.size W).alloc yQ _)) hg7)
 have S124:∀ (W:World) (gi:Nat) (gt:Nat) (g7:Nat),Below w.heap.size w W→W.heap[g]? =some (.cells #[.int .i64 1,.slice A 3 c] 41)→RdE ptC 3 W (.slice A 3 c) S7→RdE Y6 2 W (.slice (some ⟨b5,o5,none⟩) 2 c5) [(0,5),(6,16)]→RdTT W (.slice (some ⟨gt,0,none⟩) 1 1) [knG]→W.heap[g7]? =some (.cells #[.int .i64 0,.slice none 0 0] 41)→w.heap.size≤g7→wpAny Tryz.prog .any o q 7 (bL 13 1086) (a_124 gi gt g7) W:=by
  intro W gi gt g7 HB HX HP HS HT HG hg7;simp only [a_124,a_12,a_1,a_,a0,Act.put,zZ,zY,zX];refine zqo 0 rfl ?_;refine zqL (.agg #[.int .i64 1,.slice A 3 c]) rfl (.pointer (some ⟨g,0,none⟩)) (Q0e (bx2 HX).1 (bx2 HX).2.1) ?_;exact zqX (S0124 W gi gt g7 HB HP HS HT HG hg7)
 have S01:∀ (W:World) (gi:Nat),Below w.heap.size w W→RdE ptC 3 W (.slice A 3 c) S7→RdE Y6 2 W (.slice (some ⟨b5,o5,none⟩) 2 c5) [(0,5),(6,16)]→RdT W (.slice (some ⟨gi,0,none⟩) 1 1) knG→wpAny Tryz.prog .any o q 8 (bL 13 31) (a_01 gi) W:=by
  intro W gi HB HP HS HI;simp only [a_01,a_0,a_,a0,Act.put,zZ,zY,zX];refine zqt 5 10 rfl rfl ?_ ?_
  ·refine Q7 (X0a (.tmp 43) (some ⟨gi,0,none⟩) 1 1 rfl yZ) ?_;exact zqX (S012 (W.alloc (.cells #[.slice (some ⟨gi,0,none⟩) 1 1] 24)) gi W.heap.size (HB.trans (((Below.refl W.heap.size W).alloc yQ _).mono HB.size)) (RdE.below HP ((Below.refl W.heap.size W).alloc yQ _) yQ) (RdE.below HS ((Below.refl W.heap.size W).alloc yQ _) yQ) (X1a W gi knG rfl HI))
  ·refine Q7 (U4 rfl) ?_;exact zqX (S014 (W.alloc (.cells #[.int .i64 0,.slice none 0 0] 41)) gi W.heap.size (HB.trans (((Below.refl W.heap.size W).alloc yQ _).mono HB.size)) (RdE.below HP ((Below.refl W.heap.size W).alloc yQ _) yQ) (RdE.below HS ((Below.refl W.heap.size W).alloc yQ _) yQ) (RdE.below HI ((Below.refl W.heap.size W).alloc yQ _) yQ) (heap_alloc_new W _) HB.size)
 have S04:∀ (W:World) (g7:Nat),Below w.heap.size w W→RdE ptC 3 W (.slice A 3 c) S7→RdE Y6 2 W (.slice (some ⟨b5,o5,none⟩) 2 c5) [(0,5),(6,16)]→W.heap[g7]? =some (.cells #[.int .i64 0,.slice none 0 0] 41)→w.heap.size≤g7→wpAny Tryz.prog .any o q 8 (bL 13 1039) (a_04 g7) W:=by
  intro W g7 HB HP HS HG hg7;simp only [a_04,a_0,a_,a0,Act.put,zZ,zY,zX];refine zqo 4 rfl ?_;refine Q7 (X0b (.tmp 42) (⟨#[83,105,99,104,101,114,110,46]⟩:ByteArray) rfl yZ) ?_;exact zqX (S014 (W.alloc (.cells #[.int .i64 1,.string (⟨#[83,105,99,104,101,114,110,46]⟩:ByteArray),.int .i64 0] 31)) W.heap.size g7 (HB.trans (((Below.refl W.heap.size W).alloc yQ _).mono HB.size)) (RdE.below HP ((Below.refl W.heap.size W).alloc yQ _) yQ) (RdE.below HS ((Below.refl W.heap.size W).alloc yQ _) yQ) (Z6 tkC 3 Q5 W _ rfl ⟨1,(⟨#[83,105,99,104,101,114,110,46]⟩:ByteArray),0⟩ _) (Q4 HG ((Below.refl W.heap.size W).alloc yQ _)) hg7)
 have S12:∀ (W:World) (gi:Nat) (gt:Nat),Below w.heap.size w W→W.heap[g]? =some (.cells #[.int .i64 1,.slice A 3 c] 41)→RdE ptC 3 W (.slice A 3 c) S7→RdE Y6 2 W (.slice (some ⟨b5,o5,none⟩) 2 c5) [(0,5),(6,16)]→RdTT W (.slice (some ⟨gt,0,none⟩) 1 1) [knG]→wpAny Tryz.prog .any o q 8 (bL 13 62) (a_12 gi gt) W:=by
  intro W gi gt HB HX HP HS HT;simp only [a_12,a_1,a_,a0,Act.put,zZ,zY,zX];refine zqt 0 10 rfl rfl ?_ ?_
  ·refine zqL (.agg #[.int .i64 1,.slice A 3 c]) rfl (.pointer (some ⟨g,0,none⟩)) (Q0e (bx2 HX).1 (bx2 HX).2.1) ?_;exact zqX (S012 W gi gt HB HP HS HT)
  ·refine Q7 (U4 rfl) ?_;exact zqX (S124 (W.alloc (.cells #[.int .i64 0,.slice none 0 0] 41)) gi gt W.heap.size (HB.trans (((Below.refl W.heap.size W).alloc yQ _).mono HB.size)) (Q4 HX ((Below.refl W.heap.size W).alloc yQ _)) (RdE.below HP ((Below.refl W.heap.size W).alloc yQ _) yQ) (RdE.below HS ((Below.refl W.heap.size W).alloc yQ _) yQ) (RdTT.below HT ((Below.refl W.heap.size W).alloc yQ _) yQ) (heap_alloc_new W _) HB.size)
 have S14:∀ (W:World) (gi:Nat) (g7:Nat),Below w.heap.size w W→W.heap[g]? =some (.cells #[.int .i64 1,.slice A 3 c] 41)→RdE ptC 3 W (.slice A 3 c) S7→RdE Y6 2 W (.slice (some ⟨b5,o5,none⟩) 2 c5) [(0,5),(6,16)]→RdT W (.slice (some ⟨gi,0,none⟩) 1 1) knG→W.heap[g7]? =some (.cells #[.int .i64 0,.slice none 0 0] 41)→w.heap.size≤g7→wpAny Tryz.prog .any o q 8 (bL 13 1054) (a_14 gi g7) W:=by
  intro W gi g7 HB HX HP HS HI HG hg7;simp only [a_14,a_1,a_,a0,Act.put,zZ,zY,zX];refine zqt 0 5 rfl rfl ?_ ?_
  ·refine zqL (.agg #[.int .i64 1,.slice A 3 c]) rfl (.pointer (some ⟨g,0,none⟩)) (Q0e (bx2 HX).1 (bx2 HX).2.1) ?_;exact zqX (S014 W gi g7 HB HP HS HI HG hg7)
  ·refine Q7 (X0a (.tmp 43) (some ⟨gi,0,none⟩) 1 1 rfl yZ) ?_;exact zqX (S124 (W.alloc (.cells #[.slice (some ⟨gi,0,none⟩) 1 1] 24)) gi W.heap.size g7 (HB.trans (((Below.refl W.heap.size W).alloc yQ _).mono HB.size)) (Q4 HX ((Below.refl W.heap.size W).alloc yQ _)) (RdE.below HP ((Below.refl W.heap.size W).alloc yQ _) yQ) (RdE.below HS ((Below.refl W.heap.size W).alloc yQ _) yQ) (X1a W gi knG rfl HI) (Q4 HG ((Below.refl W.heap.size W).alloc yQ _)) hg7)
 have S0:∀ (W:World),Below w.heap.size w W→RdE ptC 3 W (.slice A 3 c) S7→RdE Y6 2 W (.slice (some ⟨b5,o5,none⟩) 2 c5) [(0,5),(6,16)]→wpAny Tryz.prog .any o q 9 (bL 13 15) a_0 W:=by
  intro W HB HP HS;simp only [a_0,a_,a0,Act.put,zZ,zY,zX];refine zqt 4 10 rfl rfl ?_ ?_
  ·refine Q7 (X0b (.tmp 42) (⟨#[83,105,99,104,101,114,110,46]⟩:ByteArray) rfl yZ) ?_;exact zqX (S01 (W.alloc (.cells #[.int .i64 1,.string (⟨#[83,105,99,104,101,114,110,46]⟩:ByteArray),.int .i64 0] 31)) W.heap.size (HB.trans (((Below.refl W.heap.size W).alloc yQ _).mono HB.size)) (RdE.below HP ((Below.refl W.heap.size W).alloc yQ _) yQ) (RdE.below HS ((Below.refl W.heap.size W).alloc yQ _) yQ) (Z6 tkC 3 Q5 W _ rfl ⟨1,(⟨#[83,105,99,104,101,114,110,46]⟩:ByteArray),0⟩ _))
  ·refine Q7 (U4 rfl) ?_;exact zqX (S04 (W.alloc (.cells #[.int .i64 0,.slice none 0 0] 41)) W.heap.size (HB.trans (((Below.refl W.heap.size W).alloc yQ _).mono HB.size)) (RdE.below HP ((Below.refl W.heap.size W).alloc yQ _) yQ) (RdE.below HS ((Below.refl W.heap.size W).alloc yQ _) yQ) (heap_alloc_new W _) HB.size)
 have S1:∀ (W:World) (gi:Nat),Below w.heap.size w W→W.heap[g]? =some (.cells #[.int .i64 1,.slice A 3 c] 41)→RdE ptC 3 W (.slice A 3 c) S7→RdE Y6 2 W (.slice (some ⟨b5,o5,none⟩) 2 c5) [(0,5),(6,16)]→RdT W (.slice (some ⟨gi,0,none⟩) 1 1) knG→wpAny Tryz.prog .any o q 9 (bL 13 30) (a_1 gi) W:=by
  intro W gi HB HX HP HS HI;simp only [a_1,a_,a0,Act.put,zZ,zY,zX];refine zqh 0 5 10 rfl rfl rfl ?_ ?_ ?_
  ·refine zqL (.agg #[.int .i64 1,.slice A 3 c]) rfl (.pointer (some ⟨g,0,none⟩)) (Q0e (bx2 HX).1 (bx2 HX).2.1) ?_;exact zqX (S01 W gi HB HP HS HI)
  ·refine Q7 (X0a (.tmp 43) (some ⟨gi,0,none⟩) 1 1 rfl yZ) ?_;exact zqX (S12 (W.alloc (.cells #[.slice (some ⟨gi,0,none⟩) 1 1] 24)) gi W.heap.size (HB.trans (((Below.refl W.heap.size W).alloc yQ _).mono HB.size)) (Q4 HX ((Below.refl W.heap.size W).alloc yQ _)) (RdE.below HP ((Below.refl W.heap.size W).alloc yQ _) yQ) (RdE.below HS ((Below.refl W.heap.size W).alloc yQ _) yQ) (X1a W gi knG rfl HI))
  ·refine Q7 (U4 rfl) ?_;exact zqX (S14 (W.alloc (.cells #[.int .i64 0,.slice none 0 0] 41)) gi W.heap.size (HB.trans (((Below.refl W.heap.size W).alloc yQ _).mono HB.size)) (Q4 HX ((Below.refl W.heap.size W).alloc yQ _)) (RdE.below HP ((Below.refl W.heap.size W).alloc yQ _) yQ) (RdE.below HS ((Below.refl W.heap.size W).alloc yQ _) yQ) (RdE.below HI ((Below.refl W.heap.size W).alloc yQ _) yQ) (heap_alloc_new W _) HB.size)
 have S4:∀ (W:World) (g7:Nat),Below w.heap.size w W→W.heap[g]? =some (.cells #[.int .i64 1,.slice A 3 c] 41)→RdE ptC 3 W (.slice A 3 c) S7→RdE Y6 2 W (.slice (some ⟨b5,o5,none⟩) 2 c5) [(0,5),(6,16)]→W.heap[g7]? =some (.cells #[.int .i64 0,.slice none 0 0] 41)→w.heap.size≤g7→wpAny Tryz.prog .any o q 9 (bL 13 1038) (a_4 g7) W:=by
  intro W g7 HB HX HP HS HG hg7;simp only [a_4,a_,a0,Act.put,zZ,zY,zX];refine zqt 0 4 rfl rfl ?_ ?_
  ·refine zqL (.agg #[.int .i64 1,.slice A 3 c]) rfl (.pointer (some ⟨g,0,none⟩)) (Q0e (bx2 HX).1 (bx2 HX).2.1) ?_;exact zqX (S04 W g7 HB HP HS HG hg7)
  ·refine Q7 (X0b (.tmp 42) (⟨#[83,105,99,104,101,114,110,46]⟩:ByteArray) rfl yZ) ?_;exact zqX (S14 (W.alloc (.cells #[.int .i64 1,.string (⟨#[83,105,99,104,101,114,110,46]⟩:ByteArray),.int .i64 0] 31)) W.heap.size g7 (HB.trans (((Below.refl W.heap.size W).alloc yQ _).mono HB.size)) (Q4 HX ((Below.refl W.heap.size W).alloc yQ _)) (RdE.below HP ((Below.refl W.heap.size W).alloc yQ _) yQ) (RdE.below HS ((Below.refl W.heap.size W).alloc yQ _) yQ) (Z6 tkC 3 Q5 W _ rfl ⟨1,(⟨#[83,105,99,104,101,114,110,46]⟩:ByteArray),0⟩ _) (Q4 HG ((Below.refl W.heap.size W).alloc yQ _)) hg7)
 have S:∀ (W:World),Below w.heap.size w W→W.heap[g]? =some (.cells #[.int .i64 1,.slice A 3 c] 41)→RdE ptC 3 W (.slice A 3 c) S7→RdE Y6 2 W (.slice (some ⟨b5,o5,none⟩) 2 c5) [(0,5),(6,16)]→wpAny Tryz.prog .any o q 13 (bL 13 0) a0 W:=by
  intro W HB HX HP HS;simp only [a0,Act.put,zZ,zY,zX];refine zqM 1 40 (.slice (some ⟨b5,o5,none⟩) 2 c5) rfl ?_;refine zzA 2 (.slice (some ⟨b5,o5,none⟩) 1 c5) (some 41) rfl (fun _=>X0c 72 _ _ _ (.slice (some ⟨b5,o5,none⟩) 2 c5) _ none (some (.int .i64 1)) rfl yZ yZ yZ yU) ?_;refine zzA 3 (.agg #[.int .i64 1,.string (⟨#[83,105,99,104,101,114,110,46]⟩:ByteArray),.int .i64 0]) (some 42) rfl (fun _=>Z4n (⟨#[83,105,99,104,101,114,110,46]⟩:ByteArray) rfl) ?_;simp only [Act.put,zZ,zY,zX];refine zqh 0 4 10 rfl rfl rfl ?_ ?_ ?_
  ·refine zqL (.agg #[.int .i64 1,.slice A 3 c]) rfl (.pointer (some ⟨g,0,none⟩)) (Q0e (bx2 HX).1 (bx2 HX).2.1) ?_;exact zqX (S0 W HB HP HS)
  ·refine Q7 (X0b (.tmp 42) (⟨#[83,105,99,104,101,114,110,46]⟩:ByteArray) rfl yZ) ?_;exact zqX (S1 (W.alloc (.cells #[.int .i64 1,.string (⟨#[83,105,99,104,101,114,110,46]⟩:ByteArray),.int .i64 0] 31)) W.heap.size (HB.trans (((Below.refl W.heap.size W).alloc yQ _).mono HB.size)) (Q4 HX ((Below.refl W.heap.size W).alloc yQ _)) (RdE.below HP ((Below.refl W.heap.size W).alloc yQ _) yQ) (RdE.below HS ((Below.refl W.heap.size W).alloc yQ _) yQ) (Z6 tkC 3 Q5 W _ rfl ⟨1,(⟨#[83,105,99,104,101,114,110,46]⟩:ByteArray),0⟩ _))
  ·refine Q7 (U4 rfl) ?_;exact zqX (S4 (W.alloc (.cells #[.int .i64 0,.slice none 0 0] 41)) W.heap.size (HB.trans (((Below.refl W.heap.size W).alloc yQ _).mono HB.size)) (Q4 HX ((Below.refl W.heap.size W).alloc yQ _)) (RdE.below HP ((Below.refl W.heap.size W).alloc yQ _) yQ) (RdE.below HS ((Below.refl W.heap.size W).alloc yQ _) yQ) (heap_alloc_new W _) HB.size)
 exact S _ hP.o hH.o hR.o hT.o
theorem PcO.other {B:Nat} {w w':World} {v:Value} {ps:List Pc} {ys:List Pv} (h:PcO B w v ps ys) (hg:w.grownBy w' v.ownBlock) {α:Type} {e:TypeId} {f:α→List Value} {m B':Nat} {u:Value} {l:List α} (ho:OwnE e f m w B' u l) (hne:56≠e):OwnE e f m w' B' u l:=
 Q8 ho fun k hk=>hg.block k (ho.lt k hk).2 (fun e=>by
  obtain ⟨cur,hc⟩:=B7 h.own e.symm;exact Y1 ho hc hne k hk rfl)
theorem Q1u {w:World} {g:Nat} {v0 v1:Value} {t:TypeId} (h:w.heap[g]? =some (.cells #[v0,v1] t)):w.cell? ⟨g,0,none⟩=some v0∧w.cell? ⟨g,1,none⟩=some v1:=by
 constructor
 ·rw [cell_of_row _ _ _ _ _ _ h];rfl
 ·rw [cell_of_row _ _ _ _ _ _ h];rfl
theorem V0n (ks:List (Nat×List Tk)) (k:Nat) (h:k < ks.length):O4 (ks.take (k+1))=O4 (ks.take k)++Y5z ks[k].1 ks[k].2:=by
 unfold O4;rw [List.take_succ_eq_append_getElem h,List.flatMap_append];simp
theorem Z5k (p:Nat) (f:List Tk) (rl:List (Nat×Nat)) (k:Nat) (h:k < rl.length):(rl.take (k+1)).map (pcU p f)=(rl.take k).map (pcU p f)++[pcU p f rl[k]]:=by
 rw [List.take_succ_eq_append_getElem h,List.map_append];rfl
theorem Y9o (m fmt:Int) (ps:List Pt) (ks:List (Nat×List Tk)) (h:UnOk m fmt ps ks) (A:Option Addr) (c:Nat) (vr:Value) (w:World) (hm:w.cell? ⟨0,0,none⟩=some (.int .i64 m)) (hp:RdE ptC 3 w (.slice A ps.length c) ps) (hr:RdRu w vr [I1]):
 Calls Tryz.prog 18 #[.agg #[.int .i64 fmt,.slice A ps.length c],vr] w (fun e w'=>∃ v,e=.returned (.tuple #[v,.bool true])∧(∃ ys,PcO w.heap.size w' v (O4 ks) ys)∧Below w.heap.size w w'):=by
 obtain ⟨R,Hi⟩:∃ R:Ending→World→Prop,yK (R=fun e w'=>∃ v,e=.returned (.tuple #[v,.bool true])∧(∃ ys,PcO w.heap.size w' v (O4 ks) ys)∧Below w.heap.size w w'):=⟨_,rfl⟩;rw [←Hi.o];have HU:=zW h;have HT:=h.len;have HS:=Y7t h;have Hl:=zW (Q4t h);have CU:=zW (fun W (hW:Below w.heap.size w W)=>X3c fmt ps A c W (hp.below hW yQ) yY);rw [h.idx] at CU;have CC:=zW (fun (x:Nat×List Tk) (hx:x∈ks) (W:World) (hW:Below w.heap.size w W)=>by
  obtain ⟨h1,h2,h3,_⟩:=h.each x hx;exact Q0l m fmt h.ok ps x.2 x.1 h1 h2 h3 A c W (X6 hm hW) (hp.below hW yQ) yY)
 obtain ⟨Ar,cr,rfl⟩:∃ Ar cr,vr=.slice Ar 1 cr:=by
  obtain ⟨xs,h1,h2,_⟩:=hr;obtain ⟨Ar,cr,h3,_⟩:=h1.shape;rw [h2] at h3;exact ⟨Ar,cr,h3⟩
 have HR:=zW hr;have hH:=zW ((Below.refl w.heap.size w).alloc yQ (.cells #[.int .i64 fmt,.slice A ps.length c] 41));have hE:yK ((w.alloc (.cells #[.int .i64 fmt,.slice A ps.length c] 41)).heap[w.heap.size]? =some (.cells #[.int .i64 fmt,.slice A ps.length c] 41)):=heap_alloc_new w _;clear h hp hr hm;go_enter Tryz.func18,Tryz.ntmps18
 go_upto_region 2 with fail
 generalize w.alloc (.cells #[.int .i64 fmt,.slice A ps.length c] 41)=w1 at hH hE ⊢;obtain ⟨g,hg⟩:∃ g,yK (g=w.heap.size):=⟨_,rfl⟩;rw [←hg.o] at hE ⊢;have Hs:g < w1.heap.size:=(Array.getElem?_eq_some_iff.1 hE.o).1;obtain ⟨d0,d1⟩:=Q1u hE.o;go_upto_region 3 with (go_at_call 26;refine (CU.o _ (by exact hH.o)).mono ?_;rintro e w2 ⟨vu,rfl,hZ,Hr⟩;have HA:=zW (OwnE.rd J9 hZ);have hN:=zW Hr;obtain ⟨Au,cu,Hw⟩:=Q0 hZ;rw [List.length_map] at Hw;subst Hw;clear hZ Hr)
 have HG:=zW ((hN.o.block g Hs).trans hE.o);have HI:g < w2.heap.size:=Nat.lt_of_lt_of_le Hs hN.o.size;have hu:=zW (hH.o.trans (hN.o.mono hH.o.size));clear d0 d1;go_loopg [6,18] ks.length (fun gk ov iv wr=>∃ k:Nat,iv=.int .i64 k∧k≤ks.length∧yK (∃ ys,PcO w2.heap.size wr ov (O4 (ks.take k)) ys)∧yK (Below w2.heap.size w2 wr)∧ks.length - k≤gk)
 case atStart=>exact ⟨0,rfl,Nat.zero_le _,⟨[],PcO.nil⟩,Below.refl _ _,yQ⟩
 case round=>
  obtain ⟨k,rfl,hk,HO,HB,hgk⟩:=hrel;by_cases hlt:k < ks.length
  ·have hx:ks[k]∈ks:=List.getElem_mem hlt;have Hu:=HA.o.below HB.o yQ;obtain ⟨b,o,HH,hb,c0⟩:=Q3y Hu k (by rw [List.length_map];exact hlt);subst HH;rw [List.getElem_map] at c0;obtain ⟨_,_,_,HL,Ht⟩:=HU.o.each _ hx;have hL:=zW (V0n ks k hlt);have HX:=Hl.o k;have Hb:=Hl.o (k+1);have CCx:=zW (CC.o _ hx);generalize ks[k]=x at *;obtain ⟨kx,fx⟩:=x;simp only at c0 HL Ht hL CCx;have HV:=(Q7s [I1] fx).1;have HC:=zW (Q7s [I1] fx).2;have CR:=zW (fun (v vr:Value) (W:World) (h1:RdRu W vr [I1]) (h2:RdT W v fx)=>X7d [I1] vr fx v W h1 X3y h2 yY yY);have CSl:=zW (fun (p q:Nat) (v:Value) (W:World) (h1:p≤q) (h2:q≤X2 fx) (h:RdT W v fx)=>Q8s fx v p q W h yY yY h1 h2);unfold Y5z at hL;generalize H6 [I1] fx=rl at *;have HW:rl.length≤1000:=yY;rw [hL.o] at Hb;generalize O4 (ks.take k)=P0 at *;have Hm:=zW ((HB.o.block g HI).trans HG.o);obtain ⟨d0,d1⟩:=Q1u Hm.o;have hO:=zW (hu.o.trans (HB.o.mono hu.o.size));clear Hu Ht;go_upto_region 6 with (go_at_call 27;refine (CCx.o _ (by exact hO.o)).mono ?_;rintro e w3 ⟨v,rfl,ho,Ho⟩;obtain ⟨Af,cf,rfl⟩:=Q0 ho;have hJ:=zW ho;have hn:=zW Ho;clear ho Ho)
   have hA:=zW (hO.o.trans (hn.o.mono hO.o.size));go_upto_region 9 with (go_at_call 31;refine (CR.o _ _ _ (by exact RdRu.below HR.o hA.o yQ) (by exact hJ.o.rd Q5)).mono ?_;rintro e w4 ⟨v,rfl,ho,Hp⟩;obtain ⟨Arl,crl,rfl⟩:=Q0 ho;have hC:=zW ho;have hM:=zW Hp;clear ho Hp)
   have hq:=zW (hn.o.trans (hM.o.mono hn.o.size));have hl:=zW (HB.o.trans (hq.o.mono HB.o.size));obtain ⟨ys4,hG⟩:=HO.o;have Hg:=zW (hG.below hq.o);have He:=zW (Y7 (Q8 hJ.o fun k hk=>hM.o.block k (hJ.o.lt k hk).2) HB.o.size);have he:=zW (Y7 hC.o (Nat.le_trans HB.o.size hn.o.size));clear hG HO hJ hC d0 d1 Hm c0 hb hn hM hq hA;have hV:=hl.o.size;go_loopg [6,34] rl.length (fun gk2 ov iv wz=>∃ j:Nat,iv=.int .i64 j∧j≤rl.length∧yK (∃ ys,PcO w2.heap.size wz ov (P0++(rl.take j).map (pcU kx fx)) ys)∧yK (OwnE 31 tkC 3 wz w2.heap.size (.slice Af fx.length cf) fx)∧yK (OwnE 54 Y6 2 wz w2.heap.size (.slice Arl rl.length crl) rl)∧yK (Below w2.heap.size w2 wz)∧rl.length - j≤gk2)
   case atStart=>exact ⟨0,rfl,Nat.zero_le _,⟨ys4,by rw [List.take_zero,List.map_nil,List.append_nil];exact Hg.o⟩,He.o,he.o,hl.o,yQ⟩
   case round=>
    clear Hg He he hl hV;obtain ⟨j,rfl,hj,hK,HF,Hh,hP,HJ⟩:=hrel;by_cases hlj:j < rl.length
    ·obtain ⟨b2,o2,hU,HQ,r0,r1⟩:=X7h (Hh.o.rd W8) j hlj;subst hU;have Hv:=HC.o _ (List.getElem_mem hlj);have HE:=zW (Z5k kx fx rl j hlj);have Hn:(P0++(rl.take j).map (pcU kx fx)).length≤2000000:=(by rw [List.length_append,List.length_map];have:=List.length_take_le j rl;omega);generalize rl[j]=r at *;obtain ⟨p,q⟩:=r;simp only at r0 r1 Hv;obtain ⟨ys,hi⟩:=hK.o;obtain ⟨Ao,co,Ha⟩:=Q0 hi.own;have HY:ys.length≤2000000:=(by rw [hi.len];exact Hn);clear Hn;subst Ha;have hz:=hP.o.size;have ht:=zW (hi.below ((Below.refl wr.heap.size wr).alloc yQ (.cells #[.int .i64 p,.int .i64 q] 54)));have hB:=zW (World.ownsRow.alloc HF.o (.cells #[.int .i64 p,.int .i64 q] 54));have ha:=zW (World.ownsRow.alloc Hh.o (.cells #[.int .i64 p,.int .i64 q] 54));have hI:=zW (hP.o.alloc hz (.cells #[.int .i64 p,.int .i64 q] 54));have hw:yK ((wr.alloc (.cells #[.int .i64 p,.int .i64 q] 54)).heap[wr.heap.size]? =some (.cells #[.int .i64 p,.int .i64 q] 54)):=heap_alloc_new wr _;clear hi hK;go_upto_region 11 with fail
     generalize wr.alloc (.cells #[.int .i64 p,.int .i64 q] 54)=w5 at ht hB ha hI hw ⊢;obtain ⟨gq,HK⟩:∃ gq,yK (gq=wr.heap.size):=⟨_,rfl⟩;rw [←HK.o] at hw ⊢;have hY:gq < w5.heap.size:=(Array.getElem?_eq_some_iff.1 hw.o).1;obtain ⟨e0,e1⟩:=Q1u hw.o;have HM:p≤q:=yY;have HN:q≤X2 fx:=Hv.2;have Hc:=hI.o.size;clear r0 r1;go_upto_region 12 with (go_at_call 47;go_loud (refine (CSl.o p q _ _ HM HN (by exact OwnE.rd Q5 hB.o)).mono ?_);rintro e w6 ⟨v,rfl,ho,Hq⟩;obtain ⟨As,cs,rfl⟩:=Q0 ho;have Hj:=zW ho;have hv:=zW Hq;clear ho Hq)
     have hF:=zW (ht.o.below hv.o);have Hf:=zW (Q8 hB.o fun k hk=>hv.o.block k (hB.o.lt k hk).2);have hD:=zW (Q8 ha.o fun k hk=>hv.o.block k (ha.o.lt k hk).2);have Hk:=zW (Y7 Hj.o Hc);have hs:=zW (hI.o.trans (hv.o.mono Hc));obtain ⟨f0,f1⟩:=Q1u ((hv.o.block gq hY).trans hw.o);clear e0 e1 ht hB ha hI hw Hj hv Hc;have HP:=hs.o.size;have hc:=zW (hF.o.below ((Below.refl w6.heap.size w6).alloc yQ (.cells #[.int .i64 kx,.int .i64 p,.int .i64 q,.slice As (slI fx 0 p q).length cs] 56)));have Hy:=zW (World.ownsRow.alloc Hf.o (.cells #[.int .i64 kx,.int .i64 p,.int .i64 q,.slice As (slI fx 0 p q).length cs] 56));have hQ:=zW (World.ownsRow.alloc hD.o (.cells #[.int .i64 kx,.int .i64 p,.int .i64 q,.slice As (slI fx 0 p q).length cs] 56));have HD:=zW (World.ownsRow.alloc Hk.o (.cells #[.int .i64 kx,.int .i64 p,.int .i64 q,.slice As (slI fx 0 p q).length cs] 56));have Hd:=zW (hs.o.alloc HP (.cells #[.int .i64 kx,.int .i64 p,.int .i64 q,.slice As (slI fx 0 p q).length cs] 56));clear hF Hf hD Hk hs;go_upto_region 15 with (at_builtin;go_loud (refine V1 rfl (.tmp 49) (.tmp 54) 43 56 rfl Tryz.underlying43 _ pvC 4 48 V4z rfl yX Y2h V4y w2.heap.size _ ys rfl (by exact hc.o.own) _ [⟨⟨kx,p,q,slI fx 0 p q⟩,As,cs⟩] rfl (by exact Z6 pvC 4 Y2h _ _ yW ⟨⟨kx,p,q,slI fx 0 p q⟩,As,cs⟩ _) yV yX Hd.o.size ?_);intro v8 w8 hh hf hd;have hT:=zW (hc.o.push ⟨⟨kx,p,q,slI fx 0 p q⟩,As,cs⟩ HD.o hh hd);have Hz:=zW (hc.o.other hd Hy.o yX);have hR:=zW (hc.o.other hd hQ.o yX);have Hx:=zW (hf w2.heap.size w2 yQ Hd.o);clear hh hf hd)
     go_wp2_with fail
     go_roundg (rl.length - (j+1))
     case measure=>omega
     case rel=>
      have hX:yK (∃ ys,PcO w2.heap.size w8 v8 (P0++(rl.take (j+1)).map (pcU kx fx)) ys):=by
       refine ⟨ys++[⟨⟨kx,p,q,slI fx 0 p q⟩,As,cs⟩],?_⟩;rw [HE.o,←List.append_assoc];exact hT.o
      exact ⟨j+1,rfl,hlj,hX,Hz.o,hR.o,Hx.o,yQ⟩
    ·obtain rfl:j=rl.length:=yY;rw [List.take_length,←hL.o] at hK;go_wp2_with fail
     go_roundg (ks.length - (k+1))
     case measure=>omega
     case rel=>exact ⟨k+1,rfl,hlt,hK.o,hP.o,yQ⟩
  ·obtain rfl:k=ks.length:=yY;rw [List.take_length] at HO;obtain ⟨ys,hi⟩:=HO.o;obtain ⟨A2,c2,Ha⟩:=Q0 hi.own;have hn:=zW (hu.o.trans (HB.o.mono hu.o.size));have hS:=zW hi;subst Ha;clear hi;go_wp2_with fail
   first | go_ret2 | skip
   rw [Hi.o];exact ⟨_,rfl,⟨ys,Y7 hS.o.own hu.o.size,hS.o.eq,fun y hy=>Y7 (hS.o.each y hy) hu.o.size⟩,hn.o⟩
/-! ### The units of a made document -/
theorem Y0s (P:Els→Prop):∀ (ms:List MK) (st:List Un×List UInt8),(∀ u∈st.1,P u.ts)→(∀ t key ts,MK.blk t key ts∈ms→P ts)→∀ u∈(ms.foldl P1 st).1,P u.ts
 | [],st,h,_=>h
 | x::ms,st,h,hm=>by
   rw [List.foldl_cons];refine Y0s P ms _ (fun u hu=>?_) (fun t key ts ht=>hm t key ts (by simp [ht]));cases x with
   | blk t key ts=>
     rcases List.mem_append.1 hu with hu | hu
     ·exact h u hu
     ·rw [List.mem_singleton.1 hu];exact hm t key ts yW
   | byte _=>exact h u hu
   | note=>exact h u hu
   | tag _=>exact h u hu
theorem Y0t (P:Els→Prop):∀ (ls:List RL) (st:List Un×List UInt8),(∀ u∈st.1,P u.ts)→(∀ key ts,RL.unit key ts∈ls→P ts)→∀ u∈(ls.foldl L7 st).1,P u.ts
 | [],st,h,_=>h
 | x::ls,st,h,hm=>by
   rw [List.foldl_cons];refine Y0t P ls _ (fun u hu=>?_) (fun key ts ht=>hm key ts (by simp [ht]));cases x with
   | unit key ts=>
     rcases List.mem_append.1 hu with hu | hu
     ·exact h u hu
     ·rw [List.mem_singleton.1 hu];exact hm key ts yW
   | skip _=>exact h u hu
theorem Y0u (P:Els→Prop):∀ (rs:List Rc) (st:List Un×List UInt8),(∀ u∈st.1,P u.ts)→(∀ r∈rs,P r.ts)→∀ u∈(rs.foldl P2 st).1,P u.ts
 | [],st,h,_=>h
 | x::rs,st,h,hm=>by
   rw [List.foldl_cons];refine Y0u P rs _ (fun u hu=>?_) (fun r hr=>hm r (by simp [hr]));rcases List.mem_append.1 hu with hu | hu
   ·exact h u hu
   ·rw [List.mem_singleton.1 hu];exact hm x yW
theorem Y5n (L:List Int) (P:Els→Prop) (hP:∀ N,P (E8 1 L N).1):∀ (i k:Nat) (ms:List MK) (N:Nat),(∀ t key ts,MK.blk t key ts∈ms→P ts)→∀ t key ts,MK.blk t key ts∈(X2n L i k ms N).1→P ts
 | 0,_,_,_,h=>h
 | i+1,k,ms,N,h=>by
   have ha:=X7 L ((E8 1 L N).2+2) 3 yX;rw [X2n];refine Y5n L P hP i (k+1) _ _ fun t key ts hm=>?_;rcases List.mem_append.1 hm with hm | hm
   ·exact h t key ts hm
   ·rcases List.mem_cons.1 hm with e | hm
    ·injection e with _ _ e;rw [e];exact hP N
    ·exact absurd rfl ((Y2u _ yY _ hm).2 t key ts)
theorem X2j:∀ (ls:List RL),Y8 ls=[]→∀ key ts,RL.unit key ts∉ls
 | [],_,_,_,h=>by simp at h
 | .skip l::ls,hk,key,ts,h=>by
   rcases List.mem_cons.1 h with e | h
   ·cases e
   ·exact X2j ls hk key ts h
 | .unit k t::ls,hk,_,_,_=>by
   rw [show Y8 (.unit k t::ls)=k::Y8 ls from rfl] at hk;cases hk
theorem Y6v (L:List Int) (P:Els→Prop) (hP:∀ N,P (E8 2 L N).1):∀ (i:Nat) (ls:List RL) (N:Nat),(∀ key ts,RL.unit key ts∈ls→P ts)→∀ key ts,RL.unit key ts∈(X7j L i ls N).1→P ts
 | 0,_,_,h=>h
 | i+1,ls,N,h=>by
   have ha:=X7 L (E8 2 L N).2 3 yX;rw [X7j];refine Y6v L P hP i _ _ fun key ts hm=>?_;rcases List.mem_append.1 hm with hm | hm
   ·exact h key ts hm
   ·rcases List.mem_cons.1 hm with e | hm
    ·injection e with _ e;rw [e];exact hP N
    ·exact absurd hm (X2j _ (Z3p _ yY).2 key ts)
theorem Y7g (L:List Int) (h:Nat) (P:Els→Prop) (hP:∀ N,P (E8 3 L N).1):∀ (i k:Nat) (rs:List Rc) (N:Nat),(∀ r∈rs,P r.ts)→∀ r∈(X2u L h i k rs N).1,P r.ts
 | 0,_,_,_,hr=>hr
 | i+1,k,rs,N,hr=>by
   rw [X2u];refine Y7g L h P hP i (k+1) _ _ fun r hm=>?_;rcases List.mem_append.1 hm with hm | hm
   ·exact hr r hm
   ·rw [List.mem_singleton.1 hm];exact hP N
theorem Z5i (L:List Int) (N n:Nat) (hn:n≤3) (fmt:Int) (hf:E7 fmt):∀ u∈(F2 L N n fmt).un.1,∃ M,u.ts=(E8 fmt L M).1:=by
 have ha:=X7 L N 3 yX;have hh:(X0 L N 3).toNat < 3:=yY;unfold F2;generalize (X0 L N 3).toNat=h at hh;generalize (X0 L (N+1) ((n:Int)+1)).toNat=m;rcases hf with rfl | rfl | rfl
 ·simp only [if_pos];exact Y0s (fun ts=>∃ M,ts=(E8 1 L M).1) _ _ (fun u hu=>by simp at hu) (Y5n L _ (fun M=>⟨M,rfl⟩) m 0 _ _ fun t key ts hm=>absurd rfl ((Y2g h hh _ hm).2 t key ts))
 ·rw [if_neg yX,if_pos rfl];exact Y0t (fun ts=>∃ M,ts=(E8 2 L M).1) _ _ (fun u hu=>by simp at hu) (Y6v L _ (fun M=>⟨M,rfl⟩) m _ _ fun key ts hm=>absurd hm (X2j _ (Z2w h hh).2 key ts))
 ·rw [if_neg yX,if_neg yX];exact Y0u (fun ts=>∃ M,ts=(E8 3 L M).1) _ _ (fun u hu=>by simp at hu) (Y7g L h (fun ts=>∃ M,ts=(E8 3 L M).1) (fun M=>⟨M,rfl⟩) m 0 [] (N+2) fun r hr=>by simp at hr)
/-! ### A made unit -/
theorem Z1l (R:List (Bool×Bool)):∀ (l:List (Nat×Nat)) (a:Nat),Z7g R a l→X4z a l R.length
 | [],_,_=>trivial
 | r::l,a,h=>by
   obtain ⟨h1,h2,h3,_,_,_,_,h4⟩:=h;exact ⟨h1,Nat.le_of_lt h2,h3,Z1l R l r.2 h4⟩
theorem Y9v (rs:List Ru) (f:List Tk):X4z 0 (H6 rs f) (X2 f):=by
 have h:=Z1l (sqF f) _ 0 (X7e rs f);rwa [Q7v] at h
structure UnitW (fmt:Int) (ts:Els):Prop where
 raw:RawOk fmt ts
 one:Y2 (X1 ts)=X1 ts
 len:(X1 ts).length≤160
 sz:(Q2 ts).length≤6880
 enc:∀ y∈X1 ts,(V3 fmt y).length≤70
theorem V3h (fmt:Int) (y:Tk) (ho:One y) (hs:y.t.size≤64):(V3 fmt y).length≤70:=by
 by_cases hk:y.k=1
 ·obtain ⟨c,rfl⟩:=ho hk;have:=X3m fmt c;omega
 ·have hl:y.t.data.toList.length≤64:=(by rw [←Lib.size_eq];exact hs);unfold V3;rw [if_neg hk];repeat (first | (simp only [List.length_cons,List.length_append,List.length_nil];omega) | split)
theorem V9x (fmt:Int) (hf:E7 fmt) (L:List Int) (M:Nat):UnitW fmt (E8 fmt L M).1:=by
 have hF:=Z9b fmt hf L M;obtain ⟨h1,h2,_⟩:=Q0x fmt hf L M;obtain ⟨h3,h4,_⟩:=X1o fmt hf L M;refine ⟨h1,by rw [h2];exact Q7d _ fun y hy=>C6 _ y hy,h4,h3,fun y hy=>?_⟩;rw [h2] at hy;exact V3h fmt y (C6 _ y hy) (hF.one y hy).2.2.2.2.2
theorem Z1s (fmt:Int):∀ u:List Tk,(∀ y∈u,(V3 fmt y).length≤70)→(J5 fmt u).length≤70 * u.length
 | [],_=>yQ
 | y::u,h=>by
   have ih:=Z1s fmt u fun z hz=>h z (by simp [hz]);have h1:=h y yW;have e:J5 fmt (y::u)=V3 fmt y++J5 fmt u:=(by simp [J5]);rw [e,List.length_append,List.length_cons];omega
theorem Z3n (fmt:Int) (ts:Els) (hc:∀ y∈X1 ts,(V3 fmt y).length≤70):∀ (rl:List (Nat×Nat)) (tg:List (List Tk)) (a:Nat),X4z a rl (X1 ts).length→AllT (fun r t=>Y2 t=((X1 ts).take r.2).drop r.1) rl tg→
 (Q2 (F6 ts a rl (tg.map (tsF fmt)))).length≤(Q2 (J7 ts a)).length+70 * ((X1 ts).length - a)
 | [],[],a,_,_=>by rw [List.map_nil,X7p];omega
 | r::rl,t::tg,a,⟨h1,h2,h3,h4⟩,⟨g1,g2⟩=>by
   have ih:=Z3n fmt ts hc rl tg r.2 h4 g2;rw [List.map_cons,X7q,P7,P7,Z3a,List.length_append,List.length_append];have e1:=congrArg List.length (R1 (J7 ts a) (r.1 - a));rw [Q4i,show a+(r.1 - a)=r.1 by omega,List.length_append] at e1;have e2:=congrArg List.length (R1 (J7 ts r.1) (r.2 - r.1));rw [Q4i,show r.1+(r.2 - r.1)=r.2 by omega,List.length_append] at e2;have e3:(J5 fmt t).length≤70 * (r.2 - r.1):=by
    rw [←X5p,g1];have:=Z1s fmt (((X1 ts).take r.2).drop r.1) fun y hy=>hc y (List.mem_of_mem_take (List.mem_of_mem_drop hy));rw [List.length_drop,List.length_take] at this;have e:70 * (min r.2 (X1 ts).length - r.1)≤70 * (r.2 - r.1):=Nat.mul_le_mul_left _ yY;omega
   have e4:70 * (r.2 - r.1)+70 * ((X1 ts).length - r.2)≤70 * ((X1 ts).length - a):=by
    rw [←Nat.mul_add];exact Nat.mul_le_mul_left _ yY
   omega
theorem Z6q (fmt:Int) (hf:E7 fmt) (u:Un) (hu:UnitW fmt u.ts) (rl:List (Nat×Nat)) (tg:List (List Tk)) (hr:rl=H6 [I1] (Q9 (X1 u.ts))) (ht:AllT (fun r t=>t=slI (Q9 (X1 u.ts)) 0 r.1 r.2) rl tg):
 UnitT fmt u rl tg∧X1 (F6 u.ts 0 rl (tg.map (tsF fmt)))=X1 u.ts:=by
 have hb:=hu.len;have hc:X2 (Q9 (X1 u.ts))=(X1 u.ts).length:=(by rw [L9,Q0r _ hu.one]);have ha:=Y9v [I1] (Q9 (X1 u.ts));have hd:=(Q7s [I1] (Q9 (X1 u.ts))).1;rw [←hr,hc] at ha hd;have hS:=AllT.imp (Q:=fun r t=>TgtOk fmt (((X1 u.ts).take r.2).drop r.1) t∧Y2 t=((X1 u.ts).take r.2).drop r.1) (fun r t e=>by
  subst e;exact V1x fmt hf u.ts hu.raw hu.one r.1 r.2) ht
 have hE:=AllT.imp (Q:=fun r t=>Y2 t=((X1 u.ts).take r.2).drop r.1) (fun r t e=>e.2) hS;have hU:=Y0i (X1 u.ts) (X1 u.ts).length rl tg 0 ha hE;rw [List.drop_zero] at hU;refine ⟨⟨ha,yY,AllT.imp (fun r t e=>e.1) hS,by rw [hU];omega,fun t he=>?_,?_⟩,by rw [Q7h];exact hU⟩
 ·obtain ⟨r,_,e⟩:=AllT.mem hE t he;rw [←D6,e,List.length_drop,List.length_take];omega
 ·have:=Z3n fmt u.ts hu.enc rl tg 0 ha hE;have e:J7 u.ts 0=u.ts:=by cases h:u.ts<;>rfl
  rw [e] at this;omega
/-! ### The document -/
theorem Y1u:∀ (us:List Un) (i:Nat),(ksU us i).map (fun x=>x.1)=(List.range us.length).map fun (j:Nat)=>2 * (i+j)+1
 | [],_=>rfl
 | u::us,i=>by
   rw [ksU,List.map_cons,Y1u us (i+1),List.length_cons,List.range_succ_eq_map,List.map_cons,List.map_map];congr 1;apply List.map_congr_left;intro j _;show 2 * (i+1+j)+1=2 * (i+(j+1))+1;omega
structure KeepW (m fmt:Int) (ps pe:List Pt) (ks:List (Nat×List Tk)):Prop where
 un:UnOk m fmt ps ks
 tr:Z3w m fmt (O4 ks) ((O4 ks).map fun p=>p.src) (ks.map fun x=>x.1) ps pe
 len:pe.length=ps.length
 each:∀ x∈ks,∃ h:x.1 < pe.length,pe[x.1].un=true∧X8t m fmt pe[x.1].raw x.2
theorem V9k (m fmt:Int) (hf:E7 fmt) (d:DS) (hd:d.Ok) (hfm:d.fmt=fmt) (hul:d.un.1.length≤3) (hsz:d.data.length≤25000) (hW:∀ u∈d.un.1,UnitW fmt u.ts):∃ pe,KeepW m fmt d.ps pe (ksU d.un.1 0):=by
 obtain ⟨P,hP⟩:∃ P,d.un=P:=⟨_,rfl⟩;obtain ⟨us,tl⟩:=P;have ha:d.ps=B8 us tl:=(by unfold DS.ps;rw [hP]);rw [hP] at hul hW ⊢;simp only at hul hW ⊢;have hn:(P3 us tl).length≤25000:=(by unfold DS.data at hsz;rwa [hP] at hsz);have hc:=AllP.map (P:=fun p t=>t=p.src) (fun p=>p.src) (O4 (ksU us 0)) (fun p _=>rfl);have hm:∀ j u,us[j]? =some u→UnitT fmt u (D9 (2 * j+1) (O4 (ksU us 0))) (O7 (2 * j+1) (O4 (ksU us 0)) ((O4 (ksU us 0)).map fun p=>p.src))∧X1 (Q9b fmt (O4 (ksU us 0)) ((O4 (ksU us 0)).map fun p=>p.src) j u).ts=X1 u.ts:=by
  intro j u hu;have ht:=AllP.pick (2 * j+1) hc;have hr:=Z2t us 0 j u hu;rw [Nat.zero_add] at hr;refine Z6q fmt hf u (hW u (List.mem_of_getElem? hu)) _ _ hr (AllT.imp (fun r t=>?_) ht);rintro ⟨p,hp,hpt,rfl,rfl⟩;obtain ⟨j',u',r',h1,h2,rfl⟩:=V4r us 0 p hp;have hj:j'=j:=by
   have:2 * (0+j')+1=2 * j+1:=hpt;omega
  subst hj;rw [hu] at h1;injection h1 with h1;subst h1;rfl
 obtain ⟨hl,d',e1,e2,e3⟩:=V6r m fmt tl (O4 (ksU us 0)) ((O4 (ksU us 0)).map fun p=>p.src) us [] d hd hfm hP (by simpa using Nat.le_trans hul yX) (by
  rw [List.nil_append];omega) (fun j u hu=>by
  rw [show ([]:List Un).length+j=j from Nat.zero_add j];exact (hm j u hu).1)
 have hK:(List.range us.length).map (fun (j:Nat)=>2 * (([]:List Un).length+j)+1)=(ksU us 0).map fun x=>x.1:=(Y1u us 0).symm;rw [hK,List.nil_append] at hl;have hh:(B8 (Q5i fmt (O4 (ksU us 0)) ((O4 (ksU us 0)).map fun p=>p.src) 0 us) tl).length=d.ps.length:=by
  rw [ha,Q3t,Q3t,Y0m]
 refine ⟨B8 (Q5i fmt (O4 (ksU us 0)) ((O4 (ksU us 0)).map fun p=>p.src) 0 us) tl,⟨hf,?_,?_,by rw [ha,Q3t];omega⟩,hl,hh,?_⟩
 ·have hk:=congrArg (List.map (fun (k:Nat)=>(k:Int))) (Y1u us 0);rw [List.map_map,List.map_map] at hk;rw [ha,V2f];refine Eq.trans ?_ hk.symm;apply List.map_congr_left;intro j _;show ((0+(2 * j+1):Nat):Int)=((2 * (0+j)+1:Nat):Int);omega
 ·intro x hx;obtain ⟨j,u,hu,rfl⟩:=Y1v us 0 x hx;obtain ⟨hj,he⟩:=List.getElem?_eq_some_iff.1 hu;have hw:=hW u (List.mem_of_getElem? hu);have hg:=X0x us tl j hj;rw [he] at hg;obtain ⟨hk,hv⟩:=List.getElem?_eq_some_iff.1 hg;have hB:X2 (Q9 (X1 u.ts))=(X1 u.ts).length:=(by rw [L9,Q0r _ hw.one]);have hs:=Q5z (X1 u.ts);rw [Q0r _ hw.one] at hs;have hC:=hw.len;have hz:=hw.sz;simp only [Nat.zero_add];refine ⟨by rw [ha];exact hk,?_⟩;have hy:d.ps[2 * j+1]'(by rw [ha];exact hk)=⟨true,ofL u.key,ofL (Q2 u.ts)⟩:=by
   rw [←hv];congr 1
  rw [hy];exact ⟨rfl,Q7a m fmt hf u.ts hw.raw yY,yY,yY⟩
 ·intro x hx;obtain ⟨j,u,hu,rfl⟩:=Y1v us 0 x hx;obtain ⟨hj,he⟩:=List.getElem?_eq_some_iff.1 hu;have hw:=hW u (List.mem_of_getElem? hu);obtain ⟨hT,hI⟩:=hm j u hu;have hi:=Y0l fmt (O4 (ksU us 0)) ((O4 (ksU us 0)).map fun p=>p.src) us 0 j u hu;rw [Nat.zero_add] at hi;obtain ⟨hq,ho⟩:=List.getElem?_eq_some_iff.1 hi;have hg:=X0x (Q5i fmt (O4 (ksU us 0)) ((O4 (ksU us 0)).map fun p=>p.src) 0 us) tl j hq;rw [ho] at hg;obtain ⟨hk,hv⟩:=List.getElem?_eq_some_iff.1 hg;have hb:=d'.raws e1 (Q9b fmt (O4 (ksU us 0)) ((O4 (ksU us 0)).map fun p=>p.src) j u) (by
   rw [e3,List.nil_append];exact List.mem_of_getElem? hi)
  rw [e2] at hb;have hA:=hT.gro;have hz:=hw.sz;simp only [Nat.zero_add];refine ⟨hk,?_⟩;rw [hv];refine ⟨rfl,?_⟩;rw [←hI];exact Q7a m fmt hf _ hb (by show (Q2 (F6 _ _ _ _)).length≤_;omega)
structure Tv where
 t:List Tk
 A:Option Addr
 c:Nat
def Tv.v (y:Tv):Value:=.slice y.A y.t.length y.c
def tvC (y:Tv):List Value:=[y.v]
theorem X4u (y:Tv):(tvC y).length=1:=rfl
theorem Z3s (y:Tv):∀ u∈tvC y,u.oneCell'=true:=by
 intro u hu;simp [tvC,Tv.v] at hu;subst hu;rfl
theorem Z3t:(Tryz.prog.info? 24).map (fun i=>(i.zero,i.size,i.bytes))=some (some (.slice none 0 0),1,24):=by kernel_rfl
structure TtO (W0:World) (B:Nat) (w:World) (v:Value) (L:List (List Tk)) (ys:List Tv):Prop where
 own:OwnE 24 tvC 1 w B v ys
 eq:ys.map (·.t)=L
 each:∀ y∈ys,RdT W0 y.v y.t
section
variable {W0:World} {B:Nat} {w w':World} {v v':Value} {L:List (List Tk)} {ys:List Tv}
theorem TtO.nil:TtO W0 B w (.slice none 0 0) [] []:=⟨OwnE.nil,rfl,fun _ h=>by simp at h⟩
theorem TtO.len (h:TtO W0 B w v L ys):ys.length=L.length:=by rw [←h.eq,List.length_map]
theorem TtO.same (h:TtO W0 B w v L ys) (hk:∀ k,v.ownBlock=some k→w'.heap[k]? =w.heap[k]?):TtO W0 B w' v L ys:=⟨Q8 h.own hk,h.eq,h.each⟩
theorem TtO.below (h:TtO W0 B w v L ys) (hb:Below w.heap.size w w'):TtO W0 B w' v L ys:=h.same fun k hk=>hb.block k (h.own.lt k hk).2
theorem TtO.push (h:TtO W0 B w v L ys) (y:Tv) (hy:RdT W0 y.v y.t) (ho:OwnE 24 tvC 1 w' B v' (ys++[y])):TtO W0 B w' v' (L++[y.t]) (ys++[y]):=
 ⟨ho,by rw [List.map_append,h.eq];rfl,fun z hz=>by
   rcases List.mem_append.1 hz with hz | hz
   ·exact h.each z hz
   ·rw [List.mem_singleton.1 hz];exact hy⟩
theorem TtO.rd (h:TtO W0 B w v L ys) (hb:Below W0.heap.size W0 w):RdTT w v L:=by
 have hr:=h.own.rd X4u;obtain ⟨A,c,hv⟩:=Q0 h.own;subst hv;obtain ⟨ho,he,hx⟩:=h;subst he;refine ⟨A,c,by rw [List.length_map],fun hl=>?_⟩;have hc:0 < ys.length:=by
  cases ys with
  | nil=>exact absurd rfl hl
  | cons y ys=>simp
 obtain ⟨b,o,hA,hd,ha⟩:=RdE.cells hr hc;refine ⟨b,o,hA,hd,fun i x hi=>?_⟩;rw [List.getElem?_map] at hi;cases hy:ys[i]? with
 | none=>rw [hy] at hi;cases hi
 | some y=>
   rw [hy] at hi;injection hi with hi;subst hi;refine ⟨y.A,y.c,?_,(hx y (List.mem_of_getElem? hy)).below hb yQ⟩;have:=ha i y 0 _ hy rfl;simpa [Tv.v] using this
end
theorem Q4n {w w':World} {B B':Nat} {e e':TypeId} {size size' n n':Nat} {v u:Value} {xs xs':List Value} (hg:w.grownBy w' v.ownBlock) (ho:w.ownsRow B e size v n xs) (hu:w.ownsRow B' e' size' u n' xs') (hne:e≠e'):∀ k,u.ownBlock=some k→w'.heap[k]? =w.heap[k]? :=fun k hk=>
 hg.block k (hu.lt k hk).2 (fun e=>by
  obtain ⟨cur,hc⟩:=B7 ho e.symm;exact Y1 hu hc hne k hk rfl)
theorem Z9g {w w':World} {B:Nat} {e t:TypeId} {size n:Nat} {v:Value} {xs:List Value} {b:Nat} {cs:Array Value} (hg:w.grownBy w' v.ownBlock) (ho:w.ownsRow B e size v n xs) (hb:w.heap[b]? =some (.cells cs t)) (hne:t≠e):w'.heap[b]? =some (.cells cs t):=
 (hg.block b (V2 hb) (fun e=>Y1 ho hb hne b e.symm rfl)).trans hb
theorem Q6i (r:Nat×Nat):∀ u∈Y6 r,u.oneCell'=true:=by
 intro u hu;simp [Y6] at hu;rcases hu with rfl | rfl<;>rfl
theorem X4r {α:Type} (f:α→List Value) {m:Nat} (x:α) {w:World} {g:Nat} {t:TypeId} (h:w.heap[g]? =some (.cells (f x).toArray t)):RdE f m w (.slice (some ⟨g,0,none⟩) 1 1) [x]:=by
 refine ⟨some ⟨g,0,none⟩,1,rfl,by simp,(fun h=>by cases h),fun _=>⟨g,0,rfl,V2 h,fun i y j u hi hj=>?_⟩⟩;have ha:i=0:=by
  have:=(List.getElem?_eq_some_iff.1 hi).1;simpa using this
 subst ha;injection hi with hi;subst hi;rw [show 0+(0 * m+j)=j by omega,cell_of_row _ _ j _ _ _ h];simpa using hj
theorem Y9a {w:World} {b:Nat} {v0 v3:Value} {lo hi:Int} {t:TypeId} (h:w.heap[b]? =some (.cells #[v0,.int .i64 lo,.int .i64 hi,v3] t)):(Instr.loadAt 54 (.pointer (some ⟨b,1,none⟩))).run Tryz.prog w=.ok (.agg #[.int .i64 lo,.int .i64 hi]) w:=by
 have h1:w.cell? ⟨b,1,none⟩=some (.int .i64 lo):=(by rw [cell_of_row _ _ 1 _ _ _ h];rfl);have h2:w.cell? ⟨b,2,none⟩=some (.int .i64 hi):=(by rw [cell_of_row _ _ 2 _ _ _ h];rfl);go_simp
theorem Y8o {o:Oper} {a:Act} {w:World} (x:Operand) (ho:o.op=.buildSlice 72 1 #[(0,x)]) (lo hi:Int) (hx:a.eval x=.agg #[.int .i64 lo,.int .i64 hi]):(execOp a.eval o).run Tryz.prog w=.ok (.value (.slice (some ⟨w.heap.size,0,none⟩) 1 1)) (w.alloc (.cells #[.int .i64 lo,.int .i64 hi] 54)):=by
 generalize a.eval=ρ at hx ⊢;unfold execOp;simp only [ho];go_simp
theorem Y1k {o:Oper} {a:Act} {w:World} (x:Operand) (ho:o.op=.buildSlice 48 1 #[(0,x)]) (A:Option Addr) (n c:Nat) (hx:a.eval x=.slice A n c):(execOp a.eval o).run Tryz.prog w=.ok (.value (.slice (some ⟨w.heap.size,0,none⟩) 1 1)) (w.alloc (.cells #[.slice A n c] 24)):=by
 generalize a.eval=ρ at hx ⊢;unfold execOp;simp only [ho];go_simp
def KeepP (g:Nat) (w:World) (v:Value) (ps:List Pt):Prop:=∀ w':World,w.heap.size≤w'.heap.size→(∀ k,k < w.heap.size→k≠g→k≠g+1→w'.heap[k]? =w.heap[k]?)→RdE ptC 3 w' v ps
theorem KeepP.old {g:Nat} {w w2:World} {v:Value} {ps:List Pt} (h:RdE ptC 3 w v ps) (hb:Below w.heap.size w w2) (hg:g=w.heap.size):KeepP g w2 v ps:=fun w' hs hk=>
 h.keep (Nat.le_trans hb.size hs) fun b ha=>(hk b (Nat.lt_of_lt_of_le ha hb.size) yY yY).trans (hb.block b ha)
theorem KeepP.new {g B:Nat} {w w2:World} {v:Value} {ps:List Pt} (h:OwnE 52 ptC 3 w B v ps) (hB:g+1 < B) (hs:w.heap.size≤w2.heap.size) (hk:∀ k,k < w.heap.size→k≠g→k≠g+1→w2.heap[k]? =w.heap[k]?):KeepP g w2 v ps:=fun w' hc ha=>
 OwnE.rd K0 (Q8 h fun k hb=>by
  have:=h.lt k hb;exact (ha k yY yY yY).trans (hk k yY yY yY))
theorem X7x (m fmt:Int) (ps pe:List Pt) (l:List Pc) (T:List (List Tk)) (K:List Nat) (hK:K3 ps 0=K.map fun (k:Nat)=>(k:Int)) (htr:Z3w m fmt l T K ps pe) (hl:l.length=T.length) (hl2:l.length≤1000000) (hps:ps.length≤100000) (A A1 A2:Option Addr) (c c1 c2:Nat) (w:World) (hm:w.cell? ⟨0,0,none⟩=some (.int .i64 m)) (hp:RdE ptC 3 w (.slice A ps.length c) ps) (hpc:RdPc w (.slice A1 l.length c1) l) (hT:RdTT w (.slice A2 T.length c2) T):
 Calls Tryz.prog 23 #[.agg #[.int .i64 fmt,.slice A ps.length c],.slice A1 l.length c1,.slice A2 T.length c2] w (fun e w'=>∃ A' c',e=.returned (.tuple #[.agg #[.int .i64 fmt,.slice A' pe.length c'],.bool true])∧RdE ptC 3 w' (.slice A' pe.length c') pe∧Below w.heap.size w w'):=by
 obtain ⟨R,He⟩:∃ R:Ending→World→Prop,yK (R=fun e w'=>∃ A' c',e=.returned (.tuple #[.agg #[.int .i64 fmt,.slice A' pe.length c'],.bool true])∧RdE ptC 3 w' (.slice A' pe.length c') pe∧Below w.heap.size w w'):=⟨_,rfl⟩;rw [←He.o];have CU:=zW (fun W (hW:Below w.heap.size w W)=>X3c fmt ps A c W (hp.below hW yQ) yY);rw [hK] at CU;have HH:K.length≤100000:=by
  have:=Q4z ps 0;rw [hK,List.length_map] at this;omega
 have HP:=zW hp;have Hp:=zW hpc;have HT:=zW hT;have hq:=zW htr;have HM:=zW hm;have hw:=zW (((Below.refl w.heap.size w).alloc yQ (.cells #[.int .i64 fmt,.slice A ps.length c] 41)).alloc yW (.cells #[.int .i64 0,.slice none 0 0] 41));have hC:yK (((w.alloc (.cells #[.int .i64 fmt,.slice A ps.length c] 41)).alloc (.cells #[.int .i64 0,.slice none 0 0] 41)).heap[w.heap.size]? =some (.cells #[.int .i64 fmt,.slice A ps.length c] 41)):=(Below.heap_alloc _ _ _ yW).trans (heap_alloc_new w _);have hD:yK (((w.alloc (.cells #[.int .i64 fmt,.slice A ps.length c] 41)).alloc (.cells #[.int .i64 0,.slice none 0 0] 41)).heap[w.heap.size+1]? =some (.cells #[.int .i64 0,.slice none 0 0] 41)):=by
  have:=heap_alloc_new (w.alloc (.cells #[.int .i64 fmt,.slice A ps.length c] 41)) (.cells #[.int .i64 0,.slice none 0 0] 41);show _=_;simpa using this
 clear hp hpc hT htr hm hK;go_enter Tryz.func23,Tryz.ntmps23
 go_upto_region 1 with fail
 generalize (w.alloc (.cells #[.int .i64 fmt,.slice A ps.length c] 41)).alloc (.cells #[.int .i64 0,.slice none 0 0] 41)=w1 at hw hC hD ⊢;obtain ⟨g,hg⟩:∃ g,yK (g=w.heap.size):=⟨_,rfl⟩;rw [←hg.o] at hC hD ⊢;have Hx:g+1 < w1.heap.size:=V2 hD.o;obtain ⟨d0,d1,_,_⟩:=bx2 hC.o;go_upto_region 2 with (go_at_call 26;refine (CU.o _ (by exact hw.o)).mono ?_;rintro e w2 ⟨vu,rfl,hV,Hi⟩;have hh:=zW hV;have hH:=zW Hi;obtain ⟨Au,cu,Ho⟩:=Q0 hV;rw [List.length_map] at Ho;subst Ho;clear hV Hi)
 have hu:=zW ((hH.o.block g yY).trans hC.o);have hv:=zW ((hH.o.block (g+1) Hx).trans hD.o);have hd:=zW (hw.o.trans (hH.o.mono hw.o.size));clear d0 d1 hC hD hw hH CU;obtain ⟨nu,HA⟩:∃ nu,yK (nu=w2.heap.size):=⟨_,rfl⟩;go_loopg [19] K.length (fun gk iv wr=>∃ (i:Nat) (pq:List Pt) (Ap:Option Addr) (cp:Nat),iv=.int .i64 (i:Nat)∧i≤K.length∧yK (Z3w m fmt l T (K.drop i) pq pe)∧pq.length≤100000∧yK (KeepP g wr (.slice Ap pq.length cp) pq)∧yK (wr.heap[g]? =some (.cells #[.int .i64 fmt,.slice Ap pq.length cp] 41))∧yK (wr.heap[g+1]? =some (.cells #[.int .i64 0,.slice none 0 0] 41))∧yK (Below w.heap.size w wr)∧yK (OwnE 3 V6 1 wr w1.heap.size (.slice Au K.length cu) (K.map fun (k:Nat)=>(k:Int)))∧K.length - i≤gk)
 case atStart=>exact ⟨0,ps,A,c,rfl,Nat.zero_le _,hq.o,hps,KeepP.old HP.o hd.o hg.o,hu.o,hv.o,hd.o,hh.o,yQ⟩
 case round=>
  clear hq hu hv hd hh HA;obtain ⟨i,pq,Ap,cp,rfl,hi,hq,HI,hI,HX,HY,HB,hh,hgk⟩:=hrel;generalize wr=wa at *;obtain ⟨d0,d1,e0,e1⟩:=bx2 HX.o;obtain ⟨d2,d3,e2,e3⟩:=bx2 HY.o;have Hy:g+1 < wa.heap.size:=V2 HY.o;by_cases hlt:i < K.length
  ·have hB:=hq.o;rw [List.drop_eq_getElem_cons hlt] at hB;obtain ⟨ts,cs,n,hG,Hl⟩:=hB;have hO:=zW Hl;have Hq:=zW hG;obtain ⟨b,o,Ht,hb,c0⟩:=Q3y (hh.o.rd J9) i (by rw [List.length_map];exact hlt);subst Ht;rw [List.getElem_map] at c0;have CR:=zW (fun (A A2 A3:Option Addr) (c c2 c3:Nat) (W:World) h0 h1 h2 h3=>X3x hG A A2 A3 c c2 c3 W h0 h1 h2 h3);have hr:(pq.set K[i] (⟨true,(pq[K[i]]'hG.kl).key,ofL (Q2 (F6 ts 0 (D9 K[i] l) ((O7 K[i] l T).map (tsF fmt))))⟩:Pt)).length=pq.length:=List.length_set;generalize pq.set K[i] (⟨true,(pq[K[i]]'hG.kl).key,ofL (Q2 (F6 ts 0 (D9 K[i] l) ((O7 K[i] l T).map (tsF fmt))))⟩:Pt)=pn at hr CR hO;clear hG Hl Hq hq;generalize K[i]=k at *;have hx:=zW (RdPc.below Hp.o HB.o);have Hf:=zW (RdTT.below HT.o HB.o yQ);go_upto_region 7 with fail
   go_loopg [10,11,25] l.length (fun gk2 v10 v11 jv wz=>∃ (j:Nat) (ys:List Tv),jv=.int .i64 (j:Nat)∧j≤l.length∧yK (OwnE 54 Y6 2 wz wa.heap.size v10 (D9 k (l.take j)))∧yK (TtO wa wa.heap.size wz v11 (O7 k (l.take j) (T.take j)) ys)∧yK (Below wa.heap.size wa wz)∧l.length - j≤gk2)
   case atStart=>exact ⟨0,[],rfl,Nat.zero_le _,OwnE.nil,TtO.nil,Below.refl _ _,yQ⟩
   case round=>
    obtain ⟨j,ys,rfl,hj,HO,hA,hc,Hw⟩:=hrel;by_cases hlj:j < l.length
    ·have hM:=hc.o;obtain ⟨bp,op,A8,c8,Hr,HF,r0,r1,r2,r3,_⟩:=RdPc.at_ (hx.o.below hM) j hlj;have Hk:j < T.length:=yY;obtain ⟨bT,oT,A9,c9,Hs,hE,hs,hQ⟩:=RdTT.at_ Hf.o j Hk;subst Hr;subst Hs;have hs:=zW hs;have hQ:=zW hQ;have hy:=zW (Y9m k l j hlj);have hz:=zW (Y9n k l T j hlj Hk);have HJ:=X9y k (l.take j);have HK:=hA.o.len;have HE:=Y6a k (l.take j) (T.take j) yV;have Hz:=List.length_take_le j l;generalize l[j]=p at *;generalize T[j]=tj at *;generalize D9 k (l.take j)=rl at *;generalize O7 k (l.take j) (T.take j)=tl at *;obtain ⟨pt,lo,hi,sr⟩:=p;simp only at r0 r1 r2 r3 hy hz;generalize sr.length=sl at *;have hP:=zW (World.ownsRow.alloc HO.o (.cells #[.int .i64 (pt:Nat),.int .i64 (lo:Nat),.int .i64 (hi:Nat),.slice A8 sl c8] 56));have hJ:=zW (hA.o.below ((Below.refl wr.heap.size wr).alloc yQ (.cells #[.int .i64 (pt:Nat),.int .i64 (lo:Nat),.int .i64 (hi:Nat),.slice A8 sl c8] 56)));have hN:=zW (hM.alloc hM.size (.cells #[.int .i64 (pt:Nat),.int .i64 (lo:Nat),.int .i64 (hi:Nat),.slice A8 sl c8] 56));have hL:yK ((wr.alloc (.cells #[.int .i64 (pt:Nat),.int .i64 (lo:Nat),.int .i64 (hi:Nat),.slice A8 sl c8] 56)).heap[wr.heap.size]? =some (.cells #[.int .i64 (pt:Nat),.int .i64 (lo:Nat),.int .i64 (hi:Nat),.slice A8 sl c8] 56)):=heap_alloc_new wr _;go_upto_region 9 with fail
     generalize wr.alloc (.cells #[.int .i64 (pt:Nat),.int .i64 (lo:Nat),.int .i64 (hi:Nat),.slice A8 sl c8] 56)=w8 at hP hJ hN hL ⊢;obtain ⟨gp,Hj⟩:∃ gp,yK (gp=wr.heap.size):=⟨_,rfl⟩;rw [←Hj.o] at hL ⊢;have q0:w8.cell? ⟨gp,0,none⟩=some (.int .i64 (pt:Nat)):=(by rw [cell_of_row _ _ 0 _ _ _ hL.o];rfl);have Hu:bT < wa.heap.size:=hE;clear r0 r1 r2 r3 hM HO hA Hj hh HB hI CR hO HX HY;by_cases hpk:pt=k
     ·have HC:(pt:Int)=(k:Int):=yY;rw [if_pos hpk] at hy hz;go_upto_region 10 with fail
      refine zqR (l0:=bL 14 0) 14 kr ?_;show let o:=_;let q:=_;let a0:=_;wpAny Tryz.prog _ o q _ _ a0 _
      intro o q a0;let a_:Act:=(((((a0.put (some 34) (u10)).put (some 35) (.pointer (some ⟨gp,1,none⟩))).put (some 39) (u11)).put (some 40) (.slice (some ⟨bT,oT,none⟩) T.length c2)).put (some 41) (.int .i64 (j:Nat))).put (some 42) (.pointer (some ⟨bT,oT+j,none⟩))
      let a_0:Act:=a_.put (some 36) (.agg #[.int .i64 (lo:Nat),.int .i64 (hi:Nat)])
      let a_3:Act:=a_.put (some 43) (.slice A9 tj.length c9)
      let a_01:Nat→Act:=fun ga1=>a_0.put (some 37) (.slice (some ⟨ga1,0,none⟩) 1 1)
      let a_03:Act:=a_0.put (some 43) (.slice A9 tj.length c9)
      let a_34:Nat→Act:=fun ga2=>a_3.put (some 44) (.slice (some ⟨ga2,0,none⟩) 1 1)
      let a_012:Nat→Value→Act:=fun ga1 v38=>(a_01 ga1).put (some 38) (v38)
      let a_013:Nat→Act:=fun ga1=>(a_01 ga1).put (some 43) (.slice A9 tj.length c9)
      let a_034:Nat→Act:=fun ga2=>a_03.put (some 44) (.slice (some ⟨ga2,0,none⟩) 1 1)
      let a_0123:Nat→Value→Act:=fun ga1 v38=>(a_012 ga1 v38).put (some 43) (.slice A9 tj.length c9)
      let a_0134:Nat→Nat→Act:=fun ga1 ga2=>(a_013 ga1).put (some 44) (.slice (some ⟨ga2,0,none⟩) 1 1)
      let a_01234:Nat→Value→Nat→Act:=fun ga1 v38 ga2=>(a_0123 ga1 v38).put (some 44) (.slice (some ⟨ga2,0,none⟩) 1 1)
      let a_012345:Nat→Value→Nat→Value→Act:=fun ga1 v38 ga2 v45=>(((a_01234 ga1 v38 ga2).put (some 45) (v45)).put (some 10) (v38)).put (some 11) (v45)
      have S012345:∀ (W:World) (ga1:Nat) (v38:Value) (ga2:Nat) (v45:Value),Below wa.heap.size wa W→OwnE 54 Y6 2 W wa.heap.size v38 (rl++[(lo,hi)])→OwnE 24 tvC 1 W wa.heap.size v45 (ys++[⟨tj,A9,c9⟩])→wpAny Tryz.prog .any o q 0 (bL 14 16383) (a_012345 ga1 v38 ga2 v45) W:=by
       intro W ga1 v38 ga2 v45 HB HO HT;simp only [a_012345,a_01234,a_0123,a_012,a_01,a_0,a_,a0,Act.put,zZ,zY,zX];refine wpAny_done yZ ?_ _;simp only [q];go_wp2_with fail
       go_roundg (l.length - (j+1))
       case measure=>omega
       case rel=>exact ⟨j+1,ys++[⟨tj,A9,c9⟩],rfl,hlj,by rw [hy.o];exact HO,by rw [hz.o];exact hJ.o.push ⟨tj,A9,c9⟩ hQ.o HT,HB,yQ⟩
      have S01234:∀ (W:World) (ga1:Nat) (v38:Value) (ga2:Nat),Below wa.heap.size wa W→OwnE 54 Y6 2 W wa.heap.size v38 (rl++[(lo,hi)])→OwnE 24 tvC 1 W wa.heap.size u11 ys→W.heap[ga2]? =some (.cells #[.slice A9 tj.length c9] 24)→wpAny Tryz.prog .any o q 3 (bL 14 2047) (a_01234 ga1 v38 ga2) W:=by
       intro W ga1 v38 ga2 HB HO HT H2;simp only [a_01234,a_0123,a_012,a_01,a_0,a_,a0,Act.put,zZ,zY,zX];refine zqo 11 rfl ?_;refine Q8a (.tmp 39) (.tmp 44) 48 24 rfl Tryz.underlying48 _ tvC 1 24 Z3t rfl yX X4u Z3s wa.heap.size u11 ys yZ HT (.slice (some ⟨ga2,0,none⟩) 1 1) [⟨tj,A9,c9⟩] yZ (X4r tvC ⟨tj,A9,c9⟩ H2) (by simp only [List.length_cons,List.length_nil];omega) yX HB.size (fun v5 w5 ho ha hg _=>?_);refine zqG 12 10 (v38) rfl ?_;refine zqG 13 11 (v5) rfl ?_;exact zqX (S012345 w5 ga1 v38 ga2 v5 (ha _ _ yQ HB) (Q8 HO (Q4n hg HT HO yX)) ho)
      have S0123:∀ (W:World) (ga1:Nat) (v38:Value),Below wa.heap.size wa W→OwnE 54 Y6 2 W wa.heap.size v38 (rl++[(lo,hi)])→OwnE 24 tvC 1 W wa.heap.size u11 ys→wpAny Tryz.prog .any o q 4 (bL 14 1023) (a_0123 ga1 v38) W:=by
       intro W ga1 v38 HB HO HT;simp only [a_0123,a_012,a_01,a_0,a_,a0,Act.put,zZ,zY,zX];refine zqo 10 rfl ?_;refine Q7 (v:=.slice (some ⟨W.heap.size,0,none⟩) 1 1) (w2:=W.alloc (.cells #[.slice A9 tj.length c9] 24)) (Y1k (.tmp 43) rfl A9 tj.length c9 yZ) ?_;exact zqX (S01234 (W.alloc (.cells #[.slice A9 tj.length c9] 24)) ga1 v38 W.heap.size (HB.alloc HB.size _) (World.ownsRow.alloc HO _) (World.ownsRow.alloc HT _) (heap_alloc_new W _))
      have S0134:∀ (W:World) (ga1:Nat) (ga2:Nat),Below wa.heap.size wa W→OwnE 54 Y6 2 W wa.heap.size u10 rl→W.heap[ga1]? =some (.cells #[.int .i64 (lo:Nat),.int .i64 (hi:Nat)] 54)→OwnE 24 tvC 1 W wa.heap.size u11 ys→W.heap[ga2]? =some (.cells #[.slice A9 tj.length c9] 24)→wpAny Tryz.prog .any o q 4 (bL 14 2031) (a_0134 ga1 ga2) W:=by
       intro W ga1 ga2 HB HO H1 HT H2;simp only [a_0134,a_013,a_01,a_0,a_,a0,Act.put,zZ,zY,zX];refine zqo 4 rfl ?_;refine Q8a (.tmp 34) (.tmp 37) 72 54 rfl Tryz.underlying72 _ Y6 2 16 Q4v rfl yX W8 Q6i wa.heap.size u10 rl yZ HO (.slice (some ⟨ga1,0,none⟩) 1 1) [(lo,hi)] yZ (X4r Y6 (lo,hi) H1) (by simp only [List.length_cons,List.length_nil];omega) yX HB.size (fun v5 w5 ho ha hg _=>?_);exact zqX (S01234 w5 ga1 v5 ga2 (ha _ _ yQ HB) ho (Q8 HT (Q4n hg HO HT yX)) (Z9g hg HO H2 yX))
      have S012:∀ (W:World) (ga1:Nat) (v38:Value),Below wa.heap.size wa W→OwnE 54 Y6 2 W wa.heap.size v38 (rl++[(lo,hi)])→OwnE 24 tvC 1 W wa.heap.size u11 ys→wpAny Tryz.prog .any o q 5 (bL 14 511) (a_012 ga1 v38) W:=by
       intro W ga1 v38 HB HO HT;simp only [a_012,a_01,a_0,a_,a0,Act.put,zZ,zY,zX];refine zqo 9 rfl ?_;refine zqL (.slice A9 tj.length c9) rfl (.pointer (some ⟨bT,oT+j,none⟩)) (Q3n ((HB.cell (p:=⟨bT,oT+j,none⟩) hE).trans hs.o)) ?_;exact zqX (S0123 W ga1 v38 HB HO HT)
      have S013:∀ (W:World) (ga1:Nat),Below wa.heap.size wa W→OwnE 54 Y6 2 W wa.heap.size u10 rl→W.heap[ga1]? =some (.cells #[.int .i64 (lo:Nat),.int .i64 (hi:Nat)] 54)→OwnE 24 tvC 1 W wa.heap.size u11 ys→wpAny Tryz.prog .any o q 5 (bL 14 1007) (a_013 ga1) W:=by
       intro W ga1 HB HO H1 HT;simp only [a_013,a_01,a_0,a_,a0,Act.put,zZ,zY,zX];refine zqt 4 10 rfl rfl ?_ ?_
       ·refine Q8a (.tmp 34) (.tmp 37) 72 54 rfl Tryz.underlying72 _ Y6 2 16 Q4v rfl yX W8 Q6i wa.heap.size u10 rl yZ HO (.slice (some ⟨ga1,0,none⟩) 1 1) [(lo,hi)] yZ (X4r Y6 (lo,hi) H1) (by simp only [List.length_cons,List.length_nil];omega) yX HB.size (fun v5 w5 ho ha hg _=>?_);exact zqX (S0123 w5 ga1 v5 (ha _ _ yQ HB) ho (Q8 HT (Q4n hg HO HT yX)))
       ·refine Q7 (v:=.slice (some ⟨W.heap.size,0,none⟩) 1 1) (w2:=W.alloc (.cells #[.slice A9 tj.length c9] 24)) (Y1k (.tmp 43) rfl A9 tj.length c9 yZ) ?_;exact zqX (S0134 (W.alloc (.cells #[.slice A9 tj.length c9] 24)) ga1 W.heap.size (HB.alloc HB.size _) (World.ownsRow.alloc HO _) ((Below.heap_alloc _ _ _ (V2 H1)).trans H1) (World.ownsRow.alloc HT _) (heap_alloc_new W _))
      have S034:∀ (W:World) (ga2:Nat),Below wa.heap.size wa W→OwnE 54 Y6 2 W wa.heap.size u10 rl→OwnE 24 tvC 1 W wa.heap.size u11 ys→W.heap[ga2]? =some (.cells #[.slice A9 tj.length c9] 24)→wpAny Tryz.prog .any o q 5 (bL 14 2023) (a_034 ga2) W:=by
       intro W ga2 HB HO HT H2;simp only [a_034,a_03,a_0,a_,a0,Act.put,zZ,zY,zX];refine zqo 3 rfl ?_;refine Q7 (v:=.slice (some ⟨W.heap.size,0,none⟩) 1 1) (w2:=W.alloc (.cells #[.int .i64 (lo:Nat),.int .i64 (hi:Nat)] 54)) (Y8o (.tmp 36) rfl lo hi yZ) ?_;exact zqX (S0134 (W.alloc (.cells #[.int .i64 (lo:Nat),.int .i64 (hi:Nat)] 54)) W.heap.size ga2 (HB.alloc HB.size _) (World.ownsRow.alloc HO _) (heap_alloc_new W _) (World.ownsRow.alloc HT _) ((Below.heap_alloc _ _ _ (V2 H2)).trans H2))
      have S01:∀ (W:World) (ga1:Nat),Below wa.heap.size wa W→OwnE 54 Y6 2 W wa.heap.size u10 rl→W.heap[ga1]? =some (.cells #[.int .i64 (lo:Nat),.int .i64 (hi:Nat)] 54)→OwnE 24 tvC 1 W wa.heap.size u11 ys→wpAny Tryz.prog .any o q 6 (bL 14 495) (a_01 ga1) W:=by
       intro W ga1 HB HO H1 HT;simp only [a_01,a_0,a_,a0,Act.put,zZ,zY,zX];refine zqt 4 9 rfl rfl ?_ ?_
       ·refine Q8a (.tmp 34) (.tmp 37) 72 54 rfl Tryz.underlying72 _ Y6 2 16 Q4v rfl yX W8 Q6i wa.heap.size u10 rl yZ HO (.slice (some ⟨ga1,0,none⟩) 1 1) [(lo,hi)] yZ (X4r Y6 (lo,hi) H1) (by simp only [List.length_cons,List.length_nil];omega) yX HB.size (fun v5 w5 ho ha hg _=>?_);exact zqX (S012 w5 ga1 v5 (ha _ _ yQ HB) ho (Q8 HT (Q4n hg HO HT yX)))
       ·refine zqL (.slice A9 tj.length c9) rfl (.pointer (some ⟨bT,oT+j,none⟩)) (Q3n ((HB.cell (p:=⟨bT,oT+j,none⟩) hE).trans hs.o)) ?_;exact zqX (S013 W ga1 HB HO H1 HT)
      have S03:∀ (W:World),Below wa.heap.size wa W→OwnE 54 Y6 2 W wa.heap.size u10 rl→OwnE 24 tvC 1 W wa.heap.size u11 ys→wpAny Tryz.prog .any o q 6 (bL 14 999) a_03 W:=by
       intro W HB HO HT;simp only [a_03,a_0,a_,a0,Act.put,zZ,zY,zX];refine zqt 3 10 rfl rfl ?_ ?_
       ·refine Q7 (v:=.slice (some ⟨W.heap.size,0,none⟩) 1 1) (w2:=W.alloc (.cells #[.int .i64 (lo:Nat),.int .i64 (hi:Nat)] 54)) (Y8o (.tmp 36) rfl lo hi yZ) ?_;exact zqX (S013 (W.alloc (.cells #[.int .i64 (lo:Nat),.int .i64 (hi:Nat)] 54)) W.heap.size (HB.alloc HB.size _) (World.ownsRow.alloc HO _) (heap_alloc_new W _) (World.ownsRow.alloc HT _))
       ·refine Q7 (v:=.slice (some ⟨W.heap.size,0,none⟩) 1 1) (w2:=W.alloc (.cells #[.slice A9 tj.length c9] 24)) (Y1k (.tmp 43) rfl A9 tj.length c9 yZ) ?_;exact zqX (S034 (W.alloc (.cells #[.slice A9 tj.length c9] 24)) W.heap.size (HB.alloc HB.size _) (World.ownsRow.alloc HO _) (World.ownsRow.alloc HT _) (heap_alloc_new W _))
      have S34:∀ (W:World) (ga2:Nat),Below wa.heap.size wa W→W.heap[gp]? =some (.cells #[.int .i64 (pt:Nat),.int .i64 (lo:Nat),.int .i64 (hi:Nat),.slice A8 sl c8] 56)→OwnE 54 Y6 2 W wa.heap.size u10 rl→OwnE 24 tvC 1 W wa.heap.size u11 ys→W.heap[ga2]? =some (.cells #[.slice A9 tj.length c9] 24)→wpAny Tryz.prog .any o q 6 (bL 14 2019) (a_34 ga2) W:=by
       intro W ga2 HB HG HO HT H2;simp only [a_34,a_3,a_,a0,Act.put,zZ,zY,zX];refine zqo 2 rfl ?_;refine zqL (.agg #[.int .i64 (lo:Nat),.int .i64 (hi:Nat)]) rfl (.pointer (some ⟨gp,1,none⟩)) (Y9a HG) ?_;exact zqX (S034 W ga2 HB HO HT H2)
      have S0:∀ (W:World),Below wa.heap.size wa W→OwnE 54 Y6 2 W wa.heap.size u10 rl→OwnE 24 tvC 1 W wa.heap.size u11 ys→wpAny Tryz.prog .any o q 7 (bL 14 487) a_0 W:=by
       intro W HB HO HT;simp only [a_0,a_,a0,Act.put,zZ,zY,zX];refine zqt 3 9 rfl rfl ?_ ?_
       ·refine Q7 (v:=.slice (some ⟨W.heap.size,0,none⟩) 1 1) (w2:=W.alloc (.cells #[.int .i64 (lo:Nat),.int .i64 (hi:Nat)] 54)) (Y8o (.tmp 36) rfl lo hi yZ) ?_;exact zqX (S01 (W.alloc (.cells #[.int .i64 (lo:Nat),.int .i64 (hi:Nat)] 54)) W.heap.size (HB.alloc HB.size _) (World.ownsRow.alloc HO _) (heap_alloc_new W _) (World.ownsRow.alloc HT _))
       ·refine zqL (.slice A9 tj.length c9) rfl (.pointer (some ⟨bT,oT+j,none⟩)) (Q3n ((HB.cell (p:=⟨bT,oT+j,none⟩) hE).trans hs.o)) ?_;exact zqX (S03 W HB HO HT)
      have S3:∀ (W:World),Below wa.heap.size wa W→W.heap[gp]? =some (.cells #[.int .i64 (pt:Nat),.int .i64 (lo:Nat),.int .i64 (hi:Nat),.slice A8 sl c8] 56)→OwnE 54 Y6 2 W wa.heap.size u10 rl→OwnE 24 tvC 1 W wa.heap.size u11 ys→wpAny Tryz.prog .any o q 7 (bL 14 995) a_3 W:=by
       intro W HB HG HO HT;simp only [a_3,a_,a0,Act.put,zZ,zY,zX];refine zqt 2 10 rfl rfl ?_ ?_
       ·refine zqL (.agg #[.int .i64 (lo:Nat),.int .i64 (hi:Nat)]) rfl (.pointer (some ⟨gp,1,none⟩)) (Y9a HG) ?_;exact zqX (S03 W HB HO HT)
       ·refine Q7 (v:=.slice (some ⟨W.heap.size,0,none⟩) 1 1) (w2:=W.alloc (.cells #[.slice A9 tj.length c9] 24)) (Y1k (.tmp 43) rfl A9 tj.length c9 yZ) ?_;exact zqX (S34 (W.alloc (.cells #[.slice A9 tj.length c9] 24)) W.heap.size (HB.alloc HB.size _) ((Below.heap_alloc _ _ _ (V2 HG)).trans HG) (World.ownsRow.alloc HO _) (World.ownsRow.alloc HT _) (heap_alloc_new W _))
      have S:∀ (W:World),Below wa.heap.size wa W→W.heap[gp]? =some (.cells #[.int .i64 (pt:Nat),.int .i64 (lo:Nat),.int .i64 (hi:Nat),.slice A8 sl c8] 56)→OwnE 54 Y6 2 W wa.heap.size u10 rl→OwnE 24 tvC 1 W wa.heap.size u11 ys→wpAny Tryz.prog .any o q 14 (bL 14 0) a0 W:=by
       intro W HB HG HO HT;simp only [a0,Act.put,zZ,zY,zX];refine zqM 0 34 (u10) rfl ?_;refine zqF 1 35 (.pointer (some ⟨gp,1,none⟩)) rfl rfl (.pointer (some ⟨gp,0,none⟩)) ?_;refine zqM 5 39 (u11) rfl ?_;refine zqM 6 40 (.slice (some ⟨bT,oT,none⟩) T.length c2) rfl ?_;refine zqM 7 41 (.int .i64 (j:Nat)) rfl ?_;refine zqI 8 42 (.pointer (some ⟨bT,oT+j,none⟩)) rfl rfl (.slice (some ⟨bT,oT,none⟩) T.length c2) (.int .i64 (j:Nat)) ?_;simp only [Act.put,zZ,zY,zX];refine zqt 2 9 rfl rfl ?_ ?_
       ·refine zqL (.agg #[.int .i64 (lo:Nat),.int .i64 (hi:Nat)]) rfl (.pointer (some ⟨gp,1,none⟩)) (Y9a HG) ?_;exact zqX (S0 W HB HO HT)
       ·refine zqL (.slice A9 tj.length c9) rfl (.pointer (some ⟨bT,oT+j,none⟩)) (Q3n ((HB.cell (p:=⟨bT,oT+j,none⟩) hE).trans hs.o)) ?_;exact zqX (S3 W HB HG HO HT)
      exact S _ (Q1 hN.o 1) hL.o hP.o hJ.o.own
     ·have HC:¬ (pt:Int)=(k:Int):=yY;rw [if_neg hpk] at hy hz;go_wp2_with fail
      go_roundg (l.length - (j+1))
      case measure=>omega
      case rel=>exact ⟨j+1,ys,rfl,hlj,by rw [hy.o];exact hP.o,by rw [hz.o];exact hJ.o,hN.o,yQ⟩
    ·obtain rfl:j=l.length:=yY;have ho:=HO.o;have ht:=hA.o;rw [List.take_length] at ho;rw [List.take_length,show T.take l.length=T by rw [hl,List.take_length]] at ht;obtain ⟨Ar,cr,HD⟩:=Q0 ho;subst HD;obtain ⟨At,ct,Hn⟩:=Q0 ht.own;rw [ht.len] at Hn;subst Hn;have Hd:=zW (ht.rd hc.o);have Hc:=zW (ho.rd W8);have Hb:=zW (hI.o wr hc.o.size fun k hk _ _=>hc.o.block k hk);have hY:=zW (X6 HM.o (HB.o.trans (hc.o.mono HB.o.size)));have hu:=zW ((hc.o.block g yY).trans HX.o);have hv:=zW ((hc.o.block (g+1) Hy).trans HY.o);have hd:=zW (HB.o.trans (hc.o.mono HB.o.size));have hn:=zW (Q8 hh.o fun k hk=>hc.o.block k (hh.o.lt k hk).2);have hF:g+1 < wr.heap.size:=V2 hv.o;clear ho ht HO hA d0 d1 e0 e1 d2 d3 e2 e3 HX HY HB hh hI hx Hf c0 hb;obtain ⟨d0,d1,_,_⟩:=bx2 hu.o;go_upto_region 13 with (go_at_call 32;refine (CR.o Ap Ar At cp cr ct _ (by exact hY.o) (by exact Hb.o) (by exact Hc.o) (by exact Hd.o)).mono ?_;rintro e w4 ⟨A4,c4,rfl,Hm,Hh⟩;have hZ:=zW Hm;have hf:=zW Hh;clear Hm Hh)
     have hS:yK ((w4.alloc (.cells #[.int .i64 fmt,.slice A4 pq.length c4] 41)).heap[g]? =some (.cells #[.int .i64 fmt,.slice Ap pq.length cp] 41)):=(Below.heap_alloc _ _ _ (by have:=hf.o.size;omega)).trans ((hf.o.block g yY).trans hu.o);have Hg:yK ((w4.alloc (.cells #[.int .i64 fmt,.slice A4 pq.length c4] 41)).heap[g+1]? =some (.cells #[.int .i64 0,.slice none 0 0] 41)):=(Below.heap_alloc _ _ _ (by have:=hf.o.size;omega)).trans ((hf.o.block (g+1) hF).trans hv.o);have hU:yK ((w4.alloc (.cells #[.int .i64 fmt,.slice A4 pq.length c4] 41)).heap[w4.heap.size]? =some (.cells #[.int .i64 fmt,.slice A4 pq.length c4] 41)):=heap_alloc_new w4 _;have Ha:=zW (World.ownsRow.alloc hZ.o (.cells #[.int .i64 fmt,.slice A4 pq.length c4] 41));have hR:=zW (World.ownsRow.alloc (Q8 hn.o fun k hk=>hf.o.block k (hn.o.lt k hk).2) (.cells #[.int .i64 fmt,.slice A4 pq.length c4] 41));have hX:=zW ((hd.o.trans (hf.o.mono hd.o.size)).alloc (Nat.le_trans hd.o.size hf.o.size) (.cells #[.int .i64 fmt,.slice A4 pq.length c4] 41));clear hZ hn hd hu hv hY Hb Hc Hd hc CR d0 d1 hf;generalize w4.alloc (.cells #[.int .i64 fmt,.slice A4 pq.length c4] 41)=w5 at hS Hg hU Ha hR hX ⊢;generalize w4.heap.size=gn at hU ⊢;obtain ⟨d0,d1,y0,y1⟩:=bx2 hS.o;obtain ⟨d2,d3,_,_⟩:=bx2 hU.o;go_wp2_with fail
     go_roundg (K.length - (i+1))
     case measure=>omega
     case rel=>
      refine ⟨i+1,pn,A4,c4,rfl,hlt,hO.o,yY,?_,?_,?_,?_,?_,yQ⟩
      ·rw [hr];exact KeepP.new Ha.o hF (by simp [World.setCell]) fun k _ h1 _=>G2 h1
      ·rw [hr];exact Q7x hS.o
      ·exact (G2 yY).trans Hg.o
      ·exact (hX.o.setCell (p:=⟨g,0,none⟩) (by have:=hg.o;show _≤g;omega) _).setCell (p:=⟨g,1,none⟩) (by have:=hg.o;show _≤g;omega) _
      ·exact Q8 hR.o fun k hk=>G2 (by have:=(hR.o.lt k hk).1;omega)
  ·obtain rfl:i=K.length:=yY;have he:=hq.o;rw [List.drop_length] at he;have Hv:pq=pe:=he;subst Hv;clear hq he;go_wp2_with fail
   refine bodyPost_ret (Y6o rfl _ _ (g+1) fmt Ap pq.length cp _ rfl rfl yU yU) rfl ?_;rw [He.o];exact ⟨Ap,cp,rfl,hI.o _ (by simp [World.setCell]) fun k _ _ h2=>G2 h2,(HB.o.setCell (p:=⟨g+1,0,none⟩) (by have:=hg.o;show _≤g+1;omega) _).setCell (p:=⟨g+1,1,none⟩) (by have:=hg.o;show _≤g+1;omega) _⟩
theorem Q5u (L:List Int) (g N:Nat) (n:Nat) (w:World) (h:Nums w g L N) (hn:n≤8) (hN:N≤1000000):
 Calls Tryz.prog 9 #[.pointer (some ⟨g,0,none⟩),.int .i64 n,.bool false,.bool true] w (Q3e g L (U3 false L N n) w):=by
 obtain ⟨R,hs⟩:∃ R,yK (R=Q3e g L (U3 false L N n) w):=⟨_,rfl⟩;rw [←hs.o];obtain ⟨tgt,HT⟩:∃ tgt,yK (G4 false L (X0 L N ((n:Int)+1)).toNat ⟨[],[],0,N+1⟩=tgt):=⟨_,rfl⟩;have hF:yK (U3 false L N n=(tgt.f++F9 tgt.op,tgt.N)):=by
  show _=_;rw [←HT.o];rfl
 rw [hF.o] at hs;have hb:=X7 L N ((n:Int)+1) yY;have hE:=zW (Z3 L g N ((n:Int)+1) w h yY yY yY);have hY:=h.lt;generalize X0 L N ((n:Int)+1)=z at HT hb hE;obtain ⟨m,rfl⟩:∃ m:Nat,z=(m:Int):=⟨z.toNat,yY⟩;rw [Int.toNat_natCast] at HT;have hm:m≤8:=yY;clear h hF;go_enter Tryz.func9,Tryz.ntmps9
 go_wp2_with fail
 refine (hE.o).mono ?_;rintro e w1 ⟨rfl,hb1,hn1⟩;have hy:=zW hb1;have hD:=zW hn1;clear hb1 hn1;go_wp2_with fail
 obtain ⟨wo,hH⟩:∃ wo,yK (wo=w1):=⟨w1,rfl⟩;go_loopg [9,10,11,12] m (fun gk fv ov dv iv wr=>∃ (s:FS) (i r:Nat),ov=.slice none 0 0∧dv=.int .i64 0∧iv=.int .i64 i∧r+i=m∧s.op=[]∧s.id=0∧s.N≤N+1+9 * r∧yK (FGK false s r)∧yK (OwnT 31 wr w.heap.size fv s.f)∧yK (But g w wr)∧yK (Nums wr g L s.N)∧yK (G4 false L i s=tgt)∧i≤gk)
 case atStart=>exact ⟨⟨[],[],0,N+1⟩,m,0,rfl,rfl,rfl,yY,rfl,rfl,(by show N+1≤N+1+9 * 0;omega),Q7f false (N+1),OwnE.nil,hy.o,hD.o,HT.o,yQ⟩
 case round=>
  clear hH hy hD HT;obtain ⟨⟨f,op,id,N'⟩,i,r,rfl,rfl,rfl,He,hP,hM,hW,hr,HF,HB,HN,HG,hgk⟩:=hrel;simp only at hP hM hW HF HN;subst hP hM;obtain ⟨A1,d1,hZ⟩:=Q0 HF.o;subst hZ;cases i with
  | zero=>
    have he:tgt=⟨f,[],0,N'⟩:=HG.o.symm;rw [he] at hs;have hu:yK (R=Q3e g L (f,N') w):=by
     show _=_;rw [hs.o];show Q3e g L (f++[],N') w=_;rw [List.append_nil]
    clear HG he;go_wp2_with fail
    obtain ⟨wo,hH⟩:∃ wo,yK (wo=wr):=⟨wr,rfl⟩;go_loopg [9,15] 0 (fun gk fv kv wr'=>wr'=wr∧fv=.slice A1 f.length d1∧kv=.int .i64 (-1))
    case atStart=>exact ⟨rfl,rfl,rfl⟩
    case round=>
     obtain ⟨rfl,rfl,rfl⟩:=hrel;go_wp2_with fail
     rw [hu.o];exact ⟨_,rfl,HF.o,HB.o,HN.o⟩
  | succ i=>
    have Hc:(0:Int) < ((i+1:Nat):Int):=yY;have hl:=X6h L N' 3 yX;have hq:=zW (X9w L g N' 3 wr HN.o yY yX yX);have hg:=HG.o;rw [G4] at hg;have hQ:C7 false L ⟨f,[],0,N'⟩=⟨Q9 (f++[(U8 false L (X0 L (D0 L N' 3).2 8) (D0 L N' 3).1 [] 0 ((D0 L N' 3).2+1)).1]),(U8 false L (X0 L (D0 L N' 3).2 8) (D0 L N' 3).1 [] 0 ((D0 L N' 3).2+1)).2.1,
     (U8 false L (X0 L (D0 L N' 3).2 8) (D0 L N' 3).1 [] 0 ((D0 L N' 3).2+1)).2.2.1,(U8 false L (X0 L (D0 L N' 3).2 8) (D0 L N' 3).1 [] 0 ((D0 L N' 3).2+1)).2.2.2⟩:=rfl
    obtain ⟨ha,hi⟩:=FGK.step false L _ r hr.o;rw [hQ] at hg ha hi;have hV:=hr.o.len;have hU:=hr.o.bytes;simp only at hV hU;generalize D0 L N' 3=ln at hl hq hg ha hi;obtain ⟨t,M⟩:=ln;simp only at hl hq hg ha hi;have c8:=X7 L M 8 yX;have hv:=zW (fun w h=>Z3 L g M 8 w h yY yX yX);generalize X0 L M 8=c at c8 hv hg ha hi;have hC:=zW hg;have ho:=zW ha;have hj:=zW hi;clear hQ ha hg HG hr hi;go_wp2_with fail
    refine (hq.o).mono ?_;rintro e w2 ⟨rfl,hb2,hn2⟩;have hw:=HB.o.trans hb2;have hp:=zW (Q8 HF.o (w':=w2) fun k hk=>by have:=HF.o.lt k hk;exact hb2.block k this.2 yY);have ht:=zW hn2;have Hb:=hn2.lt;have hA:=zW hw;have hx:=hw.size;clear hb2 hn2 hw HF HN hq HB;go_upto_block 2 with (go_at_call 34;refine (hv.o _ (by exact ht.o.alloc _)).mono ?_;rintro e w3 ⟨rfl,hb3,hn3⟩)
    have hd:FR g w2.heap.size w (.slice A1 f.length d1) f L (.slice none 0 0) [] ⟨1,t,0⟩ (M+1) w3:=by
     have h0:FR g w2.heap.size w (.slice A1 f.length d1) f L (.slice none 0 0) [] ⟨1,t,0⟩ M (w2.alloc (.cells #[.int .i64 1,.string t,.int .i64 0] 31)):=by
      refine ⟨Q8 hp.o fun k hk=>Below.heap_alloc _ _ _ (hp.o.lt k hk).2,OwnE.nil,(fun k hk=>by intro h;cases h),fun k hk=>?_,(fun k hk=>by cases hk),Array.getElem?_push_size,hA.o.alloc _,ht.o.alloc _,hY,hx⟩;have:=(hp.o.lt k hk).2;omega
     exact h0.call hb3 hn3
    have hL:=hn3.lt;clear hb3 hn3 hv hp ht hA;go_cut [10,11] (fun ov dv wx=>∃ (x:Tk) (M':Nat),ov=.slice none 0 0∧dv=.int .i64 0∧yK (U8 false L c t [] 0 (M+1)=(x,[],0,M'))∧FR g w2.heap.size w (.slice A1 f.length d1) f L (.slice none 0 0) [] x M' wx)
    case first=>
     rcases (show c=0∨c=1∨c=2∨c=3∨c=4∨c=5∨c=6∨c=7 from yY) with rfl | rfl | rfl | rfl | rfl | rfl | rfl | rfl
     ·have hz:=X7 L (M+1) 3 yX;have HI:yK (U8 false L 0 t [] 0 (M+1)=(⟨5,R6.getD (X0 L (M+1) 3).toNat ⟨#[]⟩,0⟩,[],0,M+1+1)):=by
       show U8 false L 0 t [] 0 (M+1)=_;rfl
      have hh:=zW (fun w h=>Z3 L g (M+1) 3 w h yY yX yX);generalize X0 L (M+1) 3=z at hz HI hh;have Ha:((z.toNat:Nat):Int)=z:=yY;go_wp2_with fail
      refine (hh.o _ (by exact hd.num.alloc (.cells (R6.map Value.string).toArray 9))).mono ?_;rintro e w5 ⟨rfl,hb5,hn5⟩;have q:=C5 (xs:=R6) z hz.1 hz.2 hL (by exact hb5);have hc:=(hd.alloc (.cells (R6.map Value.string).toArray 9)).call hb5 hn5;have hX:=hn5.lt;obtain ⟨p0,p1,p2,p3,p4,p5⟩:=L8 hc.box;generalize R6.getD z.toNat ⟨#[]⟩=word at q HI;clear hb5 hn5 hh;go_wp2_with fail
      go_meet
      exact ⟨⟨5,word,0⟩,M+1+1,rfl,rfl,HI.o,hc.set3 ⟨5,word,0⟩⟩
     ·have hz:=X7 L (M+1) 3 yX;have HI:yK (U8 false L 1 t [] 0 (M+1)=(⟨5,R6.getD (X0 L (M+1) 3).toNat ⟨#[]⟩,0⟩,[],0,M+1+1)):=by
       show U8 false L 1 t [] 0 (M+1)=_;rfl
      have hh:=zW (fun w h=>Z3 L g (M+1) 3 w h yY yX yX);generalize X0 L (M+1) 3=z at hz HI hh;have Ha:((z.toNat:Nat):Int)=z:=yY;go_wp2_with fail
      refine (hh.o _ (by exact hd.num.alloc (.cells (R6.map Value.string).toArray 9))).mono ?_;rintro e w5 ⟨rfl,hb5,hn5⟩;have q:=C5 (xs:=R6) z hz.1 hz.2 hL (by exact hb5);have hc:=(hd.alloc (.cells (R6.map Value.string).toArray 9)).call hb5 hn5;have hX:=hn5.lt;obtain ⟨p0,p1,p2,p3,p4,p5⟩:=L8 hc.box;generalize R6.getD z.toNat ⟨#[]⟩=word at q HI;clear hb5 hn5 hh;go_wp2_with fail
      go_meet
      exact ⟨⟨5,word,0⟩,M+1+1,rfl,rfl,HI.o,hc.set3 ⟨5,word,0⟩⟩
     ·have HI:yK (U8 false L 2 t [] 0 (M+1)=(⟨1,t,0⟩,[],0,M+1)):=by
       show U8 false L 2 t [] 0 (M+1)=_;rfl
      go_wp2_with fail
      go_meet
      exact ⟨⟨1,t,0⟩,M+1,rfl,rfl,HI.o,hd⟩
     ·have HI:yK (U8 false L 3 t [] 0 (M+1)=(⟨1,t,0⟩,[],0,M+1)):=by
       show U8 false L 3 t [] 0 (M+1)=_;rfl
      go_wp2_with fail
      go_meet
      exact ⟨⟨1,t,0⟩,M+1,rfl,rfl,HI.o,hd⟩
     ·have HI:yK (U8 false L 4 t [] 0 (M+1)=(⟨1,t,0⟩,[],0,M+1)):=by
       show U8 false L 4 t [] 0 (M+1)=_;rfl
      go_wp2_with fail
      go_meet
      exact ⟨⟨1,t,0⟩,M+1,rfl,rfl,HI.o,hd⟩
     ·have HI:yK (U8 false L 5 t [] 0 (M+1)=(⟨1,t,0⟩,[],0,M+1)):=by
       show U8 false L 5 t [] 0 (M+1)=_;rfl
      go_wp2_with fail
      go_meet
      exact ⟨⟨1,t,0⟩,M+1,rfl,rfl,HI.o,hd⟩
     ·have HI:yK (U8 false L 6 t [] 0 (M+1)=(⟨1,t,0⟩,[],0,M+1)):=by
       show U8 false L 6 t [] 0 (M+1)=_;rfl
      go_wp2_with fail
      go_meet
      exact ⟨⟨1,t,0⟩,M+1,rfl,rfl,HI.o,hd⟩
     ·have HI:yK (U8 false L 7 t [] 0 (M+1)=(⟨1,t,0⟩,[],0,M+1)):=by
       show U8 false L 7 t [] 0 (M+1)=_;rfl
      go_wp2_with fail
      go_meet
      exact ⟨⟨1,t,0⟩,M+1,rfl,rfl,HI.o,hd⟩
    case rest=>
     obtain ⟨x,M',rfl,rfl,hI,HX⟩:=hcut;have hG:=hC.o;have hO:=ho.o;have hJ:=hj.o;rw [hI.o] at hG hO hJ;simp only at hG hO hJ;have hR:=zW hG;have hT:=zW hO;have Hd:x.t.size≤18:=(X5z false L c t [] 0 (M+1) r hl.1 yW yW yY (fun _=>rfl) x [] 0 M' hI.o).1;obtain ⟨p0,p1,p2,_⟩:=L8 HX.box;clear hG hO hC ho hj;go_wp2_with fail
     refine (Q6m f [x] _ _ _ (by exact (OwnE.rd Q5 HX.own).alloc _) (by exact RdT.one_at _ _ rfl x _) (by rw [List.length_singleton];omega) (by rw [D5];omega)).mono ?_;rintro e w9 ⟨v9,rfl,hf,hK⟩;have hS:=zW hf;have hB:=zW (((Below.refl wc.heap.size wc).alloc yQ _).trans (hK.mono yW));clear hf hK;go_wp2_with fail
     have Hg:=HX.but.size;have Hf:(wc.alloc (.cells (tkC x).toArray 31)).heap.size=wc.heap.size+1:=yW;go_roundg i
     case measure=>omega
     case rel=>exact ⟨⟨Q9 (f++[x]),[],0,M'⟩,i,r+1,rfl,rfl,by go_num,yY,rfl,rfl,by show M'≤_;omega,hT.o,Y7 hS.o (by show w.heap.size≤(wc.alloc (.cells (tkC x).toArray 31)).heap.size;omega),HX.but.trans (But.of_below hB.o),HX.num.keepg fun k hk=>hB.o.block k yY,hR.o,yQ⟩
theorem Q0h (s:ByteArray):s++(⟨#[]⟩:ByteArray)=s:=by
 apply ByteArray.ext;apply Array.toList_inj.1;simp
theorem Z6c (s:ByteArray) (w:World) (h:s.toList=[112]):Calls Tryz.prog 51 #[.string s] w fun e w'=>e=.returned (.bool true)∧w=w':=by
 have h0:(s.toList==[112])=true:=(by rw [h];decide);clear h;go_enter Tryz.func51,Tryz.ntmps51
 go_wp2_with fail
 first | go_ret | skip
 exact ⟨rfl,rfl⟩
theorem Z6d (s:ByteArray) (w:World) (h:s.toList=[104]):Calls Tryz.prog 51 #[.string s] w fun e w'=>e=.returned (.bool true)∧w=w':=by
 have h0:(s.toList==[112])=false:=(by rw [h];decide);have h1:(s.toList==[104])=true:=(by rw [h];decide);clear h;go_enter Tryz.func51,Tryz.ntmps51
 go_wp2_with fail
 first | go_ret | skip
 exact ⟨rfl,rfl⟩
theorem Z6e (s:ByteArray) (w:World) (h:s.toList=[108,105]):Calls Tryz.prog 51 #[.string s] w fun e w'=>e=.returned (.bool true)∧w=w':=by
 have h0:(s.toList==[112])=false:=(by rw [h];decide);have h1:(s.toList==[104])=false:=(by rw [h];decide);have h2:(s.toList==[108,105])=true:=(by rw [h];decide);clear h;go_enter Tryz.func51,Tryz.ntmps51
 go_wp2_with fail
 first | go_ret | skip
 exact ⟨rfl,rfl⟩
theorem Z6f (s:ByteArray) (w:World) (h:s.toList=[116,100]):Calls Tryz.prog 51 #[.string s] w fun e w'=>e=.returned (.bool true)∧w=w':=by
 have h0:(s.toList==[112])=false:=(by rw [h];decide);have h1:(s.toList==[104])=false:=(by rw [h];decide);have h2:(s.toList==[108,105])=false:=(by rw [h];decide);have h3:(s.toList==[116,100])=true:=(by rw [h];decide);clear h;go_enter Tryz.func51,Tryz.ntmps51
 go_wp2_with fail
 first | go_ret | skip
 exact ⟨rfl,rfl⟩
theorem Z6g (s:ByteArray) (w:World) (h:s.toList=[116,105,116,108,101]):Calls Tryz.prog 51 #[.string s] w fun e w'=>e=.returned (.bool true)∧w=w':=by
 have h0:(s.toList==[112])=false:=(by rw [h];decide);have h1:(s.toList==[104])=false:=(by rw [h];decide);have h2:(s.toList==[108,105])=false:=(by rw [h];decide);have h3:(s.toList==[116,100])=false:=(by rw [h];decide);have h4:(s.toList==[116,105,116,108,101])=true:=(by rw [h];decide);clear h;go_enter Tryz.func51,Tryz.ntmps51
 go_wp2_with fail
 first | go_ret | skip
 exact ⟨rfl,rfl⟩
theorem Y9x (s:ByteArray) (w:World) (h:J4 s.data.toList=true):Calls Tryz.prog 51 #[.string s] w fun e w'=>e=.returned (.bool true)∧w=w':=by
 rw [←Y4] at h;unfold J4 wP wH wLi wTd X3g at h;simp only [Bool.or_eq_true,beq_iff_eq] at h;rcases h with (((h | h) | h) | h) | h
 ·exact Z6c s w h
 ·exact Z6d s w h
 ·exact Z6e s w h
 ·exact Z6f s w h
 ·exact Z6g s w h
theorem V5c (w:World):Calls Tryz.prog 173 #[.int .i64 1] w fun e w'=>e=.returned (.string (ofL (Lib.decDigits 1)))∧Below w.heap.size w w':=by
 have ha:(convert 89 9 (.slice (some ⟨w.heap.size,0,none⟩) 1 1)).run Tryz.prog (w.alloc (.cells #[.int .u8 49] 5))=.ok (.string (⟨#[49]⟩:ByteArray)) (w.alloc (.cells #[.int .u8 49] 5)):=O2 w 49;have HB:=zW ((Below.refl w.heap.size w).alloc yQ (.cells #[.int .u8 49] 5));have HE:yK ((⟨#[49]⟩:ByteArray)++(⟨#[]⟩:ByteArray)=ofL (Lib.decDigits 1)):=(by show _=_;rw [Q0h,Lib.decDigits_one yX];rfl);go_enter Tryz.func173,Tryz.ntmps173
 go_wp2_with fail
 refine wp_loop_rounds 1 ?_;rw [rounds_succ];go_wp2_with fail
 first | go_ret | skip
 refine ⟨?_,HB.o⟩;rw [←HE.o];rfl
theorem V7s (w:World):Calls Tryz.prog 134 #[.int .i64 1] w fun e w'=>e=.returned (.string (ofL (Lib.decDigits 1)))∧Below w.heap.size w w':=by
 have CD:=zW (fun w=>V5c w);go_enter Tryz.func134,Tryz.ntmps134
 go_wp2_with (go_at_call 173;refine (CD.o _).mono ?_;rintro e w1 ⟨rfl,ha⟩;have HB:=zW ha;clear ha)
 first | go_ret | skip
 exact ⟨rfl,HB.o⟩
theorem V5d (w:World):Calls Tryz.prog 173 #[.int .i64 2] w fun e w'=>e=.returned (.string (ofL (Lib.decDigits 2)))∧Below w.heap.size w w':=by
 have ha:(convert 89 9 (.slice (some ⟨w.heap.size,0,none⟩) 1 1)).run Tryz.prog (w.alloc (.cells #[.int .u8 50] 5))=.ok (.string (⟨#[50]⟩:ByteArray)) (w.alloc (.cells #[.int .u8 50] 5)):=O2 w 50;have HB:=zW ((Below.refl w.heap.size w).alloc yQ (.cells #[.int .u8 50] 5));have HE:yK ((⟨#[50]⟩:ByteArray)++(⟨#[]⟩:ByteArray)=ofL (Lib.decDigits 2)):=(by show _=_;rw [Q0h,Lib.decDigits_one yX];rfl);go_enter Tryz.func173,Tryz.ntmps173
 go_wp2_with fail
 refine wp_loop_rounds 1 ?_;rw [rounds_succ];go_wp2_with fail
 first | go_ret | skip
 refine ⟨?_,HB.o⟩;rw [←HE.o];rfl
theorem V7t (w:World):Calls Tryz.prog 134 #[.int .i64 2] w fun e w'=>e=.returned (.string (ofL (Lib.decDigits 2)))∧Below w.heap.size w w':=by
 have CD:=zW (fun w=>V5d w);go_enter Tryz.func134,Tryz.ntmps134
 go_wp2_with (go_at_call 173;refine (CD.o _).mono ?_;rintro e w1 ⟨rfl,ha⟩;have HB:=zW ha;clear ha)
 first | go_ret | skip
 exact ⟨rfl,HB.o⟩
theorem V5e (w:World):Calls Tryz.prog 173 #[.int .i64 3] w fun e w'=>e=.returned (.string (ofL (Lib.decDigits 3)))∧Below w.heap.size w w':=by
 have ha:(convert 89 9 (.slice (some ⟨w.heap.size,0,none⟩) 1 1)).run Tryz.prog (w.alloc (.cells #[.int .u8 51] 5))=.ok (.string (⟨#[51]⟩:ByteArray)) (w.alloc (.cells #[.int .u8 51] 5)):=O2 w 51;have HB:=zW ((Below.refl w.heap.size w).alloc yQ (.cells #[.int .u8 51] 5));have HE:yK ((⟨#[51]⟩:ByteArray)++(⟨#[]⟩:ByteArray)=ofL (Lib.decDigits 3)):=(by show _=_;rw [Q0h,Lib.decDigits_one yX];rfl);go_enter Tryz.func173,Tryz.ntmps173
 go_wp2_with fail
 refine wp_loop_rounds 1 ?_;rw [rounds_succ];go_wp2_with fail
 first | go_ret | skip
 refine ⟨?_,HB.o⟩;rw [←HE.o];rfl
theorem V7u (w:World):Calls Tryz.prog 134 #[.int .i64 3] w fun e w'=>e=.returned (.string (ofL (Lib.decDigits 3)))∧Below w.heap.size w w':=by
 have CD:=zW (fun w=>V5e w);go_enter Tryz.func134,Tryz.ntmps134
 go_wp2_with (go_at_call 173;refine (CD.o _).mono ?_;rintro e w1 ⟨rfl,ha⟩;have HB:=zW ha;clear ha)
 first | go_ret | skip
 exact ⟨rfl,HB.o⟩
theorem V5f (w:World):Calls Tryz.prog 173 #[.int .i64 4] w fun e w'=>e=.returned (.string (ofL (Lib.decDigits 4)))∧Below w.heap.size w w':=by
 have ha:(convert 89 9 (.slice (some ⟨w.heap.size,0,none⟩) 1 1)).run Tryz.prog (w.alloc (.cells #[.int .u8 52] 5))=.ok (.string (⟨#[52]⟩:ByteArray)) (w.alloc (.cells #[.int .u8 52] 5)):=O2 w 52;have HB:=zW ((Below.refl w.heap.size w).alloc yQ (.cells #[.int .u8 52] 5));have HE:yK ((⟨#[52]⟩:ByteArray)++(⟨#[]⟩:ByteArray)=ofL (Lib.decDigits 4)):=(by show _=_;rw [Q0h,Lib.decDigits_one yX];rfl);go_enter Tryz.func173,Tryz.ntmps173
 go_wp2_with fail
 refine wp_loop_rounds 1 ?_;rw [rounds_succ];go_wp2_with fail
 first | go_ret | skip
 refine ⟨?_,HB.o⟩;rw [←HE.o];rfl
theorem V7v (w:World):Calls Tryz.prog 134 #[.int .i64 4] w fun e w'=>e=.returned (.string (ofL (Lib.decDigits 4)))∧Below w.heap.size w w':=by
 have CD:=zW (fun w=>V5f w);go_enter Tryz.func134,Tryz.ntmps134
 go_wp2_with (go_at_call 173;refine (CD.o _).mono ?_;rintro e w1 ⟨rfl,ha⟩;have HB:=zW ha;clear ha)
 first | go_ret | skip
 exact ⟨rfl,HB.o⟩
theorem V5g (w:World):Calls Tryz.prog 173 #[.int .i64 5] w fun e w'=>e=.returned (.string (ofL (Lib.decDigits 5)))∧Below w.heap.size w w':=by
 have ha:(convert 89 9 (.slice (some ⟨w.heap.size,0,none⟩) 1 1)).run Tryz.prog (w.alloc (.cells #[.int .u8 53] 5))=.ok (.string (⟨#[53]⟩:ByteArray)) (w.alloc (.cells #[.int .u8 53] 5)):=O2 w 53;have HB:=zW ((Below.refl w.heap.size w).alloc yQ (.cells #[.int .u8 53] 5));have HE:yK ((⟨#[53]⟩:ByteArray)++(⟨#[]⟩:ByteArray)=ofL (Lib.decDigits 5)):=(by show _=_;rw [Q0h,Lib.decDigits_one yX];rfl);go_enter Tryz.func173,Tryz.ntmps173
 go_wp2_with fail
 refine wp_loop_rounds 1 ?_;rw [rounds_succ];go_wp2_with fail
 first | go_ret | skip
 refine ⟨?_,HB.o⟩;rw [←HE.o];rfl
theorem V7w (w:World):Calls Tryz.prog 134 #[.int .i64 5] w fun e w'=>e=.returned (.string (ofL (Lib.decDigits 5)))∧Below w.heap.size w w':=by
 have CD:=zW (fun w=>V5g w);go_enter Tryz.func134,Tryz.ntmps134
 go_wp2_with (go_at_call 173;refine (CD.o _).mono ?_;rintro e w1 ⟨rfl,ha⟩;have HB:=zW ha;clear ha)
 first | go_ret | skip
 exact ⟨rfl,HB.o⟩
theorem V5h (w:World):Calls Tryz.prog 173 #[.int .i64 6] w fun e w'=>e=.returned (.string (ofL (Lib.decDigits 6)))∧Below w.heap.size w w':=by
 have ha:(convert 89 9 (.slice (some ⟨w.heap.size,0,none⟩) 1 1)).run Tryz.prog (w.alloc (.cells #[.int .u8 54] 5))=.ok (.string (⟨#[54]⟩:ByteArray)) (w.alloc (.cells #[.int .u8 54] 5)):=O2 w 54;have HB:=zW ((Below.refl w.heap.size w).alloc yQ (.cells #[.int .u8 54] 5));have HE:yK ((⟨#[54]⟩:ByteArray)++(⟨#[]⟩:ByteArray)=ofL (Lib.decDigits 6)):=(by show _=_;rw [Q0h,Lib.decDigits_one yX];rfl);go_enter Tryz.func173,Tryz.ntmps173
 go_wp2_with fail
 refine wp_loop_rounds 1 ?_;rw [rounds_succ];go_wp2_with fail
 first | go_ret | skip
 refine ⟨?_,HB.o⟩;rw [←HE.o];rfl
theorem V7x (w:World):Calls Tryz.prog 134 #[.int .i64 6] w fun e w'=>e=.returned (.string (ofL (Lib.decDigits 6)))∧Below w.heap.size w w':=by
 have CD:=zW (fun w=>V5h w);go_enter Tryz.func134,Tryz.ntmps134
 go_wp2_with (go_at_call 173;refine (CD.o _).mono ?_;rintro e w1 ⟨rfl,ha⟩;have HB:=zW ha;clear ha)
 first | go_ret | skip
 exact ⟨rfl,HB.o⟩
theorem V5i (w:World):Calls Tryz.prog 173 #[.int .i64 7] w fun e w'=>e=.returned (.string (ofL (Lib.decDigits 7)))∧Below w.heap.size w w':=by
 have ha:(convert 89 9 (.slice (some ⟨w.heap.size,0,none⟩) 1 1)).run Tryz.prog (w.alloc (.cells #[.int .u8 55] 5))=.ok (.string (⟨#[55]⟩:ByteArray)) (w.alloc (.cells #[.int .u8 55] 5)):=O2 w 55;have HB:=zW ((Below.refl w.heap.size w).alloc yQ (.cells #[.int .u8 55] 5));have HE:yK ((⟨#[55]⟩:ByteArray)++(⟨#[]⟩:ByteArray)=ofL (Lib.decDigits 7)):=(by show _=_;rw [Q0h,Lib.decDigits_one yX];rfl);go_enter Tryz.func173,Tryz.ntmps173
 go_wp2_with fail
 refine wp_loop_rounds 1 ?_;rw [rounds_succ];go_wp2_with fail
 first | go_ret | skip
 refine ⟨?_,HB.o⟩;rw [←HE.o];rfl
theorem V7y (w:World):Calls Tryz.prog 134 #[.int .i64 7] w fun e w'=>e=.returned (.string (ofL (Lib.decDigits 7)))∧Below w.heap.size w w':=by
 have CD:=zW (fun w=>V5i w);go_enter Tryz.func134,Tryz.ntmps134
 go_wp2_with (go_at_call 173;refine (CD.o _).mono ?_;rintro e w1 ⟨rfl,ha⟩;have HB:=zW ha;clear ha)
 first | go_ret | skip
 exact ⟨rfl,HB.o⟩
theorem V5j (w:World):Calls Tryz.prog 173 #[.int .i64 8] w fun e w'=>e=.returned (.string (ofL (Lib.decDigits 8)))∧Below w.heap.size w w':=by
 have ha:(convert 89 9 (.slice (some ⟨w.heap.size,0,none⟩) 1 1)).run Tryz.prog (w.alloc (.cells #[.int .u8 56] 5))=.ok (.string (⟨#[56]⟩:ByteArray)) (w.alloc (.cells #[.int .u8 56] 5)):=O2 w 56;have HB:=zW ((Below.refl w.heap.size w).alloc yQ (.cells #[.int .u8 56] 5));have HE:yK ((⟨#[56]⟩:ByteArray)++(⟨#[]⟩:ByteArray)=ofL (Lib.decDigits 8)):=(by show _=_;rw [Q0h,Lib.decDigits_one yX];rfl);go_enter Tryz.func173,Tryz.ntmps173
 go_wp2_with fail
 refine wp_loop_rounds 1 ?_;rw [rounds_succ];go_wp2_with fail
 first | go_ret | skip
 refine ⟨?_,HB.o⟩;rw [←HE.o];rfl
theorem V7z (w:World):Calls Tryz.prog 134 #[.int .i64 8] w fun e w'=>e=.returned (.string (ofL (Lib.decDigits 8)))∧Below w.heap.size w w':=by
 have CD:=zW (fun w=>V5j w);go_enter Tryz.func134,Tryz.ntmps134
 go_wp2_with (go_at_call 173;refine (CD.o _).mono ?_;rintro e w1 ⟨rfl,ha⟩;have HB:=zW ha;clear ha)
 first | go_ret | skip
 exact ⟨rfl,HB.o⟩
theorem X7c (n:Nat) (h1:1≤n) (h2:n≤8) (w:World):Calls Tryz.prog 134 #[.int .i64 (n:Nat)] w fun e w'=>e=.returned (.string (ofL (Lib.decDigits n)))∧Below w.heap.size w w':=by
 rcases (show n=1∨n=2∨n=3∨n=4∨n=5∨n=6∨n=7∨n=8 by omega) with rfl | rfl | rfl | rfl | rfl | rfl | rfl | rfl
 ·exact V7s w
 ·exact V7t w
 ·exact V7u w
 ·exact V7v w
 ·exact V7w w
 ·exact V7x w
 ·exact V7y w
 ·exact V7z w
def CellK (g:Nat) (W:World) (ga z:Nat) (b:ByteArray):Prop:=ga < W.heap.size∧ga≠g∧W.cell? ⟨ga,z,none⟩=some (.string b)
theorem CellK.but {g ga z:Nat} {W W':World} {b:ByteArray} (h:CellK g W ga z b) (hb:But g W W'):CellK g W' ga z b:=
 ⟨Nat.lt_of_lt_of_le h.1 hb.size,h.2.1,by rw [World.cell?_of_block (w:=W) (hb.block _ h.1 h.2.1)];exact h.2.2⟩
theorem CellK.alloc {g ga z:Nat} {W:World} {b:ByteArray} (h:CellK g W ga z b) (o:Obj):CellK g (W.alloc o) ga z b:=h.but ((But.refl g W).alloc o)
theorem CellK.new {g z:Nat} (W:World) (xs:List ByteArray) (t:TypeId) (hg:g < W.heap.size) (hz:z < xs.length):CellK g (W.alloc (.cells (xs.map Value.string).toArray t)) W.heap.size z (xs.getD z ⟨#[]⟩):=
 ⟨by simp,yY,Q1v W _ rfl xs t z hz⟩
theorem Q4m {o:Oper} {a:Act} {w:World} (ho:o.op=.buildSlice 79 2 #[(0,.const (.string ⟨#[]⟩)),(1,.const (.string ⟨#[32,99,61,34,49,34]⟩))]):(execOp a.eval o).run Tryz.prog w=.ok (.value (.slice (some ⟨w.heap.size,0,none⟩) 2 2)) (w.alloc (.cells #[.string ⟨#[]⟩,.string ⟨#[32,99,61,34,49,34]⟩] 9)):=by
 have h0:a.eval (.const (.string ⟨#[]⟩))=.string ⟨#[]⟩:=rfl;have h1:a.eval (.const (.string ⟨#[32,99,61,34,49,34]⟩))=.string ⟨#[32,99,61,34,49,34]⟩:=rfl;generalize a.eval=ρ at h0 h1 ⊢;unfold execOp;simp only [ho];go_simp
theorem Q2r {o:Oper} {a:Act} {w:World} (ho:o.op=.buildSlice 79 3 #[(0,.const (.string ⟨#[]⟩)),(1,.const (.string ⟨#[10]⟩)),(2,.const (.string ⟨#[60,104,114,47,62]⟩))]):(execOp a.eval o).run Tryz.prog w=.ok (.value (.slice (some ⟨w.heap.size,0,none⟩) 3 3)) (w.alloc (.cells #[.string ⟨#[]⟩,.string ⟨#[10]⟩,.string ⟨#[60,104,114,47,62]⟩] 9)):=by
 have h0:a.eval (.const (.string ⟨#[]⟩))=.string ⟨#[]⟩:=rfl;have h1:a.eval (.const (.string ⟨#[10]⟩))=.string ⟨#[10]⟩:=rfl;have h2:a.eval (.const (.string ⟨#[60,104,114,47,62]⟩))=.string ⟨#[60,104,114,47,62]⟩:=rfl;generalize a.eval=ρ at h0 h1 h2 ⊢;unfold execOp;simp only [ho];go_simp
theorem Z4f (L:List Int) (g N n:Nat) (w:World) (h:Nums w g L N) (hn:n≤3) (hN:N≤10000):
 Calls Tryz.prog 86 #[.pointer (some ⟨g,0,none⟩),.int .i64 1,.int .i64 (n:Nat)] w (fun e w'=>e=.returned (.string (ofL (F2 L N n 1).data))∧(F2 L N n 1).data.length≤25000∧But g w w'):=by
 obtain ⟨R,hq⟩:∃ R:Ending→World→Prop,yK (R=fun e w'=>e=.returned (.string (ofL (F2 L N n 1).data))∧(F2 L N n 1).data.length≤25000∧But g w w'):=⟨_,rfl⟩;rw [←hq.o];obtain ⟨tgt,HT⟩:∃ tgt,yK (X2n L (X0 L (N+1) ((n:Int)+1)).toNat 0 (X4e.getD (X0 L N 3).toNat []) (N+2)=tgt):=⟨_,rfl⟩;have hB:yK ((F2 L N n 1).data=X5 tgt.1):=by
  show _=_;unfold F2;rw [if_pos rfl,HT.o];exact Q5a _
 rw [hB.o] at hq;clear hB;have hf:=X7 L N 3 yX;have hc:=X7 L (N+1) ((n:Int)+1) yY;have CX0:=zW (fun W h=>Z3 L g N 3 W h yY yX yX);have CX1:=zW (fun W h=>Z3 L g (N+1) ((n:Int)+1) W h yY yY yY);generalize X0 L N 3=z at *;generalize X0 L (N+1) ((n:Int)+1)=y at *;obtain ⟨m,rfl⟩:∃ m:Nat,y=(m:Int):=⟨y.toNat,yY⟩;rw [Int.toNat_natCast] at HT;have hm:m≤3:=yY;have hI:yK ([⟨#[]⟩,⟨#[60,104,116,109,108,62]⟩,⟨#[60,33,45,45,32,60,112,62,32,45,45,62,120]⟩].getD z.toNat (⟨#[]⟩:ByteArray)=ofL (X5 (X4e.getD z.toNat []))∧(X5 (X4e.getD z.toNat [])).length≤20):=by
  rcases (show z=0∨z=1∨z=2 by omega) with rfl | rfl | rfl<;>exact ⟨rfl,yX⟩
 have Hk:((z.toNat:Nat):Int)=z:=yY;have hV:=h.lt;have hC:=zW h;have hr:=zW (But.refl g w);clear h hc;go_enter Tryz.func86,Tryz.ntmps86
 go_wp2_with fail
 refine (CX0.o _ (by exact hC.o.alloc (.cells #[.string ⟨#[]⟩,.string ⟨#[60,104,116,109,108,62]⟩,.string ⟨#[60,33,45,45,32,60,112,62,32,45,45,62,120]⟩] 9))).mono ?_;rintro e w1 ⟨rfl,hb1',hn1⟩;have q:=C5 (w:=w) (xs:=[⟨#[]⟩,⟨#[60,104,116,109,108,62]⟩,⟨#[60,33,45,45,32,60,112,62,32,45,45,62,120]⟩]) (t:=9) z hf.1 (by simpa using hf.2) hV (by exact hb1');rw [hI.o.1] at q;have hh:=zW (((But.refl g w).alloc (.cells #[.string ⟨#[]⟩,.string ⟨#[60,104,116,109,108,62]⟩,.string ⟨#[60,33,45,45,32,60,112,62,32,45,45,62,120]⟩] 9)).trans hb1');have hl:=zW hn1;have hZ:=hI.o.2;clear hb1' hn1 hr hC CX0;go_wp2_with (go_at_call 34;refine (CX1.o _ (by exact hl.o)).mono ?_;rintro e w2 ⟨rfl,hc,hg⟩;have hi:=zW (hh.o.trans hc);have hp:=zW hg;clear hc hg)
 go_loopg [7,9] m (fun gk sv iv wr=>∃ (i k:Nat) (ms:List MK) (M:Nat),iv=.int .i64 (i:Nat)∧sv=.string (ofL (X5 ms))∧k+i=m∧M≤N+2+503 * k∧(X5 ms).length≤20+7000 * k∧yK (X2n L i k ms M=tgt)∧yK (But g w wr)∧yK (Nums wr g L M)∧i≤gk)
 case atStart=>exact ⟨m,0,X4e.getD z.toNat [],N+2,rfl,rfl,yY,yY,Nat.le_trans hZ yY,HT.o,hi.o,hp.o,yQ⟩
 case round=>
  clear HT hh hl hi hp q;obtain ⟨i,k,ms,M,rfl,rfl,Hj,hM,hK,HG,HB,HN,hgk⟩:=hrel;cases i with
  | zero=>
    have he:tgt=(ms,M):=HG.o.symm;rw [he] at hq;clear HG he;go_wp2_with fail
    first | go_ret | skip
    rw [hq.o];exact ⟨rfl,by show (X5 ms).length≤25000;omega,HB.o⟩
  | succ i=>
    have Hi:(0:Int) < ((i+1:Nat):Int):=yY;have hk:=HG.o;rw [X2n] at hk;have hH:yK (E8 1 L M=V0 1 L (Y2 (U3 true L M ((5:Nat):Int)).1) (U3 true L M ((5:Nat):Int)).2):=rfl;have hF:=Z9b 1 (.inl rfl) L M;have hF':FOkW 1 (U3 true L M ((5:Nat):Int)).1:=hF;obtain ⟨_,_,u3⟩:=Q0x 1 (.inl rfl) L M;obtain ⟨u4,_,_⟩:=X1o 1 (.inl rfl) L M;have hT:(U3 true L M ((5:Nat):Int)).2≤M+73:=(by have:=(Q5t true L M 5 yX).2.2.2.2.2;omega);have CF:=zW (fun W h=>X8o L g M 5 W h yX yY);have CR:=zW (fun (A:Option Addr) (c:Nat) (W:World) h Ha=>X7g 1 (.inl rfl) L g (U3 true L M ((5:Nat):Int)).2 (U3 true L M ((5:Nat):Int)).1 A c W h Ha hF' yY);rw [←hH.o] at CR;generalize E8 1 L M=u at *;generalize U3 true L M ((5:Nat):Int)=fr at *;obtain ⟨f,fN⟩:=fr;simp only at CR hT;have c1:=X7 L u.2 3 yX;have c2:=X7 L (u.2+1) 2 yX;have c3:=X7 L (u.2+2) 3 yX;obtain ⟨k1,k2,k3⟩:=Y5p (X0 L u.2 3).toNat yY (X0 L (u.2+1) 2).toNat yY;have CNN:=zW (fun W h=>Z3 L g u.2 3 W h yY yX yX);have CN1:=zW (fun W h=>Z3 L g (u.2+1) 2 W h yY yX yX);have CN2:=zW (fun W h=>Z3 L g (u.2+2) 3 W h yY yX yX);generalize X0 L u.2 3=zn at *;generalize X0 L (u.2+1) 2=za at *;generalize X0 L (u.2+2) 3=zs at *;obtain ⟨z1,rfl⟩:∃ z1:Nat,za=(z1:Int):=⟨za.toNat,yY⟩;obtain ⟨z2,rfl⟩:∃ z2:Nat,zs=(z2:Int):=⟨zs.toNat,yY⟩;rw [Int.toNat_natCast] at hk k1 k2 k3;rw [Int.toNat_natCast] at hk;have He:((zn.toNat:Nat):Int)=zn:=yY;have hJ:yK ([⟨#[112]⟩,⟨#[108,105]⟩,⟨#[116,105,116,108,101]⟩].getD zn.toNat (⟨#[]⟩:ByteArray)=ofL (Q2t.getD zn.toNat [])∧(Q2t.getD zn.toNat []).length≤5):=by
     rcases (show zn=0∨zn=1∨zn=2 by omega) with rfl | rfl | rfl<;>exact ⟨rfl,yX⟩
    have hu:yK ([⟨#[]⟩,⟨#[32,99,61,34,49,34]⟩].getD z1 (⟨#[]⟩:ByteArray)=ofL (Q3h.getD z1 [])∧(Q3h.getD z1 []).length≤6):=by
     rcases (show z1=0∨z1=1 by omega) with rfl | rfl<;>exact ⟨rfl,yX⟩
    have hv:yK ([⟨#[]⟩,⟨#[10]⟩,⟨#[60,104,114,47,62]⟩].getD z2 (⟨#[]⟩:ByteArray)=ofL (X5 (Q8f.getD z2 []))∧(X5 (Q8f.getD z2 [])).length≤5):=by
     rcases (show z2=0∨z2=1∨z2=2 by omega) with rfl | rfl | rfl<;>exact ⟨rfl,yX⟩
    obtain ⟨b1,hf⟩:∃ b1,yK (ofL (Q3h.getD z1 [])=b1):=⟨_,rfl⟩;obtain ⟨b2,hc⟩:∃ b2,yK (ofL (X5 (Q8f.getD z2 []))=b2):=⟨_,rfl⟩;obtain ⟨nm,hw⟩:∃ nm,yK (ofL (Q2t.getD zn.toNat [])=nm):=⟨_,rfl⟩;obtain ⟨rw_,hx⟩:∃ rw_,yK (ofL (Q2 u.1)=rw_):=⟨_,rfl⟩;obtain ⟨D,hD⟩:∃ D,yK (ofL (X5 ms)=D):=⟨_,rfl⟩;have hR:b1.size≤6:=(by rw [←hf.o,Q6];exact hu.o.2);have hS:b2.size≤5:=(by rw [←hc.o,Q6];exact hv.o.2);have hY:nm.size≤5:=(by rw [←hw.o,Q6];exact hJ.o.2);have Hb:rw_.size≤6880:=(by rw [←hx.o,Q6];exact u4);have Hg:D.size≤25000:=(by rw [←hD.o,Q6];omega);have hy:z1 < 2:=yY;have hz:z2 < 3:=yY;have Hc:(z1:Int) < 2:=yY;have Hd:(z2:Int) < 3:=yY;have hd:yK (∀ W:World,g < W.heap.size→CellK g (W.alloc (.cells #[.string ⟨#[]⟩,.string ⟨#[32,99,61,34,49,34]⟩] 9)) W.heap.size z1 b1):=fun W hW=>by
     have:=CellK.new W [⟨#[]⟩,⟨#[32,99,61,34,49,34]⟩] 9 hW (by simpa using hy);rw [hu.o.1,hf.o] at this;exact this
    have ha:yK (∀ W:World,g < W.heap.size→CellK g (W.alloc (.cells #[.string ⟨#[]⟩,.string ⟨#[10]⟩,.string ⟨#[60,104,114,47,62]⟩] 9)) W.heap.size z2 b2):=fun W hW=>by
     have:=CellK.new W [⟨#[]⟩,⟨#[10]⟩,⟨#[60,104,114,47,62]⟩] 9 hW (by simpa using hz);rw [hv.o.1,hc.o] at this;exact this
    have hA:yK (D++((⟨#[60]⟩:ByteArray)++nm++b1++(⟨#[62]⟩:ByteArray)++rw_++(⟨#[60,47]⟩:ByteArray)++nm++(⟨#[62]⟩:ByteArray)++b2)=ofL (X5 (ms++(.blk (Q2t.getD zn.toNat []++Q3h.getD z1 []) (Q0z (k+1)) u.1::Q8f.getD z2 [])))):=by
     show _=_;rw [←hD.o,←hw.o,←hf.o,←hc.o,←hx.o,Q6k,show X5 (.blk (Q2t.getD zn.toNat []++Q3h.getD z1 []) (Q0z (k+1)) u.1::Q8f.getD z2 [])=Y3 (.blk (Q2t.getD zn.toNat []++Q3h.getD z1 []) (Q0z (k+1)) u.1)++X5 (Q8f.getD z2 []) from rfl];rw [show ∀ t key (ts:Els),Y3 (.blk t key ts)=60::t++(62::(Q2 ts++(60::47::(Z1 t++[62])))) from fun _ _ _=>rfl,k3];apply ByteArray.ext;apply Array.toList_inj.1;simp [ofL]
    have hX:(X5 (ms++(.blk (Q2t.getD zn.toNat []++Q3h.getD z1 []) (Q0z (k+1)) u.1::Q8f.getD z2 []))).length≤20+7000 * (k+1):=by
     have:=congrArg ByteArray.size hA.o;rw [Q6] at this;rw [←this];have Hf:D.size≤20+7000 * k:=(by rw [←hD.o,Q6];exact hK);simp only [ByteArray.size_append];show D.size+(1+nm.size+b1.size+1+rw_.size+2+nm.size+1+b2.size)≤_;omega
    have hO:=zW hk;have Hh:=HN.o.lt;clear HG hk hH hF hF' u4 k1 k2 k3 hK hu hv;rw [hD.o];go_wp2_with fail
    refine (CF.o _ (by exact HN.o)).mono ?_;rintro e w1 ⟨v,rfl,ho,hb,hn1⟩;obtain ⟨Af,cf,rfl⟩:=Q0 ho;have hh:=zW (HB.o.trans hb);have hl:=zW hn1;have hG:yK (∀ W,But g w1 W→RdT W (.slice Af f.length cf) f):=fun W hW=>OwnE.rd Q5 (Q8 ho fun j hj=>hW.block j (ho.lt j hj).2 (by have:=(ho.lt j hj).1;omega));clear ho hb hn1 HB HN CF;go_wp2_with fail
    refine (CR.o _ _ _ (by exact hl.o) (by exact hG.o)).mono ?_;rintro e w2 ⟨rfl,hb,hg⟩;have hi:=zW (hh.o.trans hb);have hp:=zW hg;have hU:=hg.lt;rw [hx.o];clear hb hg hh hl CR hG;go_wp2_with fail
    refine (CNN.o _ (by exact hp.o.alloc (.cells #[.string ⟨#[112]⟩,.string ⟨#[108,105]⟩,.string ⟨#[116,105,116,108,101]⟩] 9))).mono ?_;rintro e w3 ⟨rfl,hb3,hn3⟩;have q:=C5 (w:=w2) (xs:=[⟨#[112]⟩,⟨#[108,105]⟩,⟨#[116,105,116,108,101]⟩]) (t:=9) zn c1.1 (by simpa using c1.2) hU (by exact hb3);rw [hJ.o.1,hw.o] at q;have hL:=zW ((hi.o.alloc (.cells #[.string ⟨#[112]⟩,.string ⟨#[108,105]⟩,.string ⟨#[116,105,116,108,101]⟩] 9)).trans hb3);have hE:=zW hn3;clear hb3 hn3 hi hp CNN;obtain ⟨P,hP⟩:∃ P,P=u.2+1:=⟨_,rfl⟩;rw [←hP] at hE CN1;rw [show u.2+2=P+1 by omega] at CN2;go_upto_region 19 with fail
    let t1:ByteArray:=(⟨#[60]⟩:ByteArray)++nm
    let t2:=t1++b1
    let t3:=t2++(⟨#[62]⟩:ByteArray)
    let t4:=t3++rw_
    let t5:=t4++(⟨#[60,47]⟩:ByteArray)
    let t6:=t5++nm
    let t7:=t6++(⟨#[62]⟩:ByteArray)
    let t8:=t7++b2
    let t9:=D++t8
    have s1:t1.size≤6:=(by show ((⟨#[60]⟩:ByteArray)++nm).size≤6;rw [ByteArray.size_append];show 1+_≤_;omega);have s2:t2.size≤12:=(by show (t1++b1).size≤_;rw [ByteArray.size_append];omega);have s3:t3.size≤13:=(by show (t2++(⟨#[62]⟩:ByteArray)).size≤_;rw [ByteArray.size_append];show _+1≤_;omega);have s4:t4.size≤6893:=(by show (t3++rw_).size≤_;rw [ByteArray.size_append];omega);have s5:t5.size≤6895:=(by show (t4++(⟨#[60,47]⟩:ByteArray)).size≤_;rw [ByteArray.size_append];show _+2≤_;omega);have s6:t6.size≤6900:=(by show (t5++nm).size≤_;rw [ByteArray.size_append];omega);have s7:t7.size≤6901:=(by show (t6++(⟨#[62]⟩:ByteArray)).size≤_;rw [ByteArray.size_append];show _+1≤_;omega);have s8:t8.size≤6906:=(by show (t7++b2).size≤_;rw [ByteArray.size_append];omega);have hs:yK (But g w w3.drew):=hL.o.drewN 1;have ht:yK (Nums w3.drew g L P):=hE.o;refine zqR (l0:=bL 24 0) 24 kr ?_;show let o:=_;let q:=_;let a0:=_;wpAny Tryz.prog _ o q _ _ a0 _
    intro o q a0;let a_:Act:=((((((a0.put (some 76) (.string D)).put (some 77) (.string nm)).put (some 78) (.string t1)).put (some 80) (.pointer (some ⟨g,0,none⟩))).put (some 86) (.string rw_)).put (some 89) (.string nm)).put (some 93) (.pointer (some ⟨g,0,none⟩))
    let a_0:Nat→Act:=fun ga1=>a_.put (some 79) (.slice (some ⟨ga1,0,none⟩) 2 2)
    let a_1:Act:=a_.put (some 81) (.int .i64 (z1:Int))
    let a_3:Nat→Act:=fun ga2=>a_.put (some 92) (.slice (some ⟨ga2,0,none⟩) 3 3)
    let a_01:Nat→Act:=fun ga1=>((a_0 ga1).put (some 81) (.int .i64 (z1:Int))).put (some 82) (.pointer (some ⟨ga1,z1,none⟩))
    let a_03:Nat→Nat→Act:=fun ga1 ga2=>(a_0 ga1).put (some 92) (.slice (some ⟨ga2,0,none⟩) 3 3)
    let a_13:Nat→Act:=fun ga2=>a_1.put (some 92) (.slice (some ⟨ga2,0,none⟩) 3 3)
    let a_14:Act:=a_1.put (some 94) (.int .i64 (z2:Int))
    let a_012:Nat→Act:=fun ga1=>(((((((a_01 ga1).put (some 83) (.string b1)).put (some 84) (.string t2)).put (some 85) (.string t3)).put (some 87) (.string t4)).put (some 88) (.string t5)).put (some 90) (.string t6)).put (some 91) (.string t7)
    let a_013:Nat→Nat→Act:=fun ga1 ga2=>(a_01 ga1).put (some 92) (.slice (some ⟨ga2,0,none⟩) 3 3)
    let a_014:Nat→Act:=fun ga1=>(a_01 ga1).put (some 94) (.int .i64 (z2:Int))
    let a_134:Nat→Act:=fun ga2=>((a_13 ga2).put (some 94) (.int .i64 (z2:Int))).put (some 95) (.pointer (some ⟨ga2,z2,none⟩))
    let a_0123:Nat→Nat→Act:=fun ga1 ga2=>(a_012 ga1).put (some 92) (.slice (some ⟨ga2,0,none⟩) 3 3)
    let a_0124:Nat→Act:=fun ga1=>(a_012 ga1).put (some 94) (.int .i64 (z2:Int))
    let a_0134:Nat→Nat→Act:=fun ga1 ga2=>((a_013 ga1 ga2).put (some 94) (.int .i64 (z2:Int))).put (some 95) (.pointer (some ⟨ga2,z2,none⟩))
    let a_1345:Nat→Act:=fun ga2=>(a_134 ga2).put (some 96) (.string b2)
    let a_01234:Nat→Nat→Act:=fun ga1 ga2=>((a_0123 ga1 ga2).put (some 94) (.int .i64 (z2:Int))).put (some 95) (.pointer (some ⟨ga2,z2,none⟩))
    let a_01345:Nat→Nat→Act:=fun ga1 ga2=>(a_0134 ga1 ga2).put (some 96) (.string b2)
    let a_012345:Nat→Nat→Act:=fun ga1 ga2=>((((a_01234 ga1 ga2).put (some 96) (.string b2)).put (some 97) (.string t8)).put (some 98) (.string t9)).put (some 7) (.string t9)
    have S012345:∀ (W:World) (ga1:Nat) (ga2:Nat),But g w W→Nums W g L (P+2)→wpAny Tryz.prog .any o q 0 (bL 24 16777215) (a_012345 ga1 ga2) W:=by
     intro W ga1 ga2 HB HN;simp only [a_012345,a_01234,a_0123,a_012,a_01,a_0,a_,a0,Act.put,zZ,zY,zX];refine wpAny_done yZ ?_ _;simp only [q];go_wp2_with fail
     have hQ:Nums W g L (u.2+3):=(by rw [show u.2+3=P+2 by omega];exact HN);go_roundg i
     case measure=>omega
     case rel=>exact ⟨i,k+1,_,u.2+3,rfl,congrArg Value.string hA.o,yY,yY,hX,hO.o,HB,hQ,yQ⟩
    have S01234:∀ (W:World) (ga1:Nat) (ga2:Nat),But g w W→Nums W g L (P+2)→CellK g W ga2 z2 b2→wpAny Tryz.prog .any o q 4 (bL 24 1048575) (a_01234 ga1 ga2) W:=by
     intro W ga1 ga2 HB HN HC2;simp only [a_01234,a_0123,a_012,a_01,a_0,a_,a0,Act.put,zZ,zY,zX];refine zqo 20 rfl ?_;refine zqL (.string b2) rfl (.pointer (some ⟨ga2,z2,none⟩)) (K8 HC2.2.2) ?_;refine zqD 21 97 rfl rfl t7 b2 ?_;refine zqD 22 98 rfl rfl D t8 ?_;refine zqG 23 7 (.string t9) rfl ?_;exact zqX (S012345 W ga1 ga2 HB HN)
    have S0123:∀ (W:World) (ga1:Nat) (ga2:Nat),But g w W→Nums W g L (P+1)→CellK g W ga2 z2 b2→wpAny Tryz.prog .any o q 6 (bL 24 262143) (a_0123 ga1 ga2) W:=by
     intro W ga1 ga2 HB HN HC2;simp only [a_0123,a_012,a_01,a_0,a_,a0,Act.put,zZ,zY,zX];refine zqo 18 rfl ?_;refine Q2n (.pointer (some ⟨g,0,none⟩)) (.int .i64 3) rfl Tryz.func34 (CN2.o _ HN) ?_;rintro e w5 ⟨rfl,hb5,hn5⟩;refine ⟨.int .i64 (z2:Int),rfl,?_⟩;refine zqI 19 95 (.pointer (some ⟨ga2,z2,none⟩)) rfl rfl (.slice (some ⟨ga2,0,none⟩) 3 3) (.int .i64 (z2:Int)) ?_;exact zqX (S01234 w5 ga1 ga2 (HB.trans hb5) hn5 (HC2.but hb5))
    have S0124:∀ (W:World) (ga1:Nat),But g w W→Nums W g L (P+2)→wpAny Tryz.prog .any o q 6 (bL 24 458751) (a_0124 ga1) W:=by
     intro W ga1 HB HN;simp only [a_0124,a_012,a_01,a_0,a_,a0,Act.put,zZ,zY,zX];refine zqo 16 rfl ?_;refine Q7 (Q2r rfl) ?_;refine zqI 19 95 (.pointer (some ⟨W.heap.size,z2,none⟩)) rfl rfl (.slice (some ⟨W.heap.size,0,none⟩) 3 3) (.int .i64 (z2:Int)) ?_;exact zqX (S01234 _ ga1 W.heap.size (HB.alloc _) (HN.alloc _) (ha.o W HN.lt))
    have S012:∀ (W:World) (ga1:Nat),But g w W→Nums W g L (P+1)→wpAny Tryz.prog .any o q 7 (bL 24 196607) (a_012 ga1) W:=by
     intro W ga1 HB HN;simp only [a_012,a_01,a_0,a_,a0,Act.put,zZ,zY,zX];refine zqt 16 18 rfl rfl ?_ ?_
     ·refine Q7 (Q2r rfl) ?_;exact zqX (S0123 _ ga1 W.heap.size (HB.alloc _) (HN.alloc _) (ha.o W HN.lt))
     ·refine Q2n (.pointer (some ⟨g,0,none⟩)) (.int .i64 3) rfl Tryz.func34 (CN2.o _ HN) ?_;rintro e w5 ⟨rfl,hb5,hn5⟩;refine ⟨.int .i64 (z2:Int),rfl,?_⟩;exact zqX (S0124 w5 ga1 (HB.trans hb5) hn5)
    have S01345:∀ (W:World) (ga1:Nat) (ga2:Nat),But g w W→Nums W g L (P+2)→CellK g W ga1 z1 b1→wpAny Tryz.prog .any o q 10 (bL 24 2040959) (a_01345 ga1 ga2) W:=by
     intro W ga1 ga2 HB HN HC1;simp only [a_01345,a_0134,a_013,a_01,a_0,a_,a0,Act.put,zZ,zY,zX];refine zqo 7 rfl ?_;refine zqL (.string b1) rfl (.pointer (some ⟨ga1,z1,none⟩)) (K8 HC1.2.2) ?_;refine zqD 8 84 rfl rfl t1 b1 ?_;refine zqD 9 85 rfl rfl t2 (⟨#[62]⟩:ByteArray) ?_;refine zqD 11 87 rfl rfl t3 rw_ ?_;refine zqD 12 88 rfl rfl t4 (⟨#[60,47]⟩:ByteArray) ?_;refine zqD 14 90 rfl rfl t5 nm ?_;refine zqD 15 91 rfl rfl t6 (⟨#[62]⟩:ByteArray) ?_;refine zqD 21 97 rfl rfl t7 b2 ?_;refine zqD 22 98 rfl rfl D t8 ?_;refine zqG 23 7 (.string t9) rfl ?_;exact zqX (S012345 W ga1 ga2 HB HN)
    have S0134:∀ (W:World) (ga1:Nat) (ga2:Nat),But g w W→Nums W g L (P+2)→CellK g W ga1 z1 b1→CellK g W ga2 z2 b2→wpAny Tryz.prog .any o q 11 (bL 24 992383) (a_0134 ga1 ga2) W:=by
     intro W ga1 ga2 HB HN HC1 HC2;simp only [a_0134,a_013,a_01,a_0,a_,a0,Act.put,zZ,zY,zX];refine zqt 7 20 rfl rfl ?_ ?_
     ·refine zqL (.string b1) rfl (.pointer (some ⟨ga1,z1,none⟩)) (K8 HC1.2.2) ?_;refine zqD 8 84 rfl rfl t1 b1 ?_;refine zqD 9 85 rfl rfl t2 (⟨#[62]⟩:ByteArray) ?_;refine zqD 11 87 rfl rfl t3 rw_ ?_;refine zqD 12 88 rfl rfl t4 (⟨#[60,47]⟩:ByteArray) ?_;refine zqD 14 90 rfl rfl t5 nm ?_;refine zqD 15 91 rfl rfl t6 (⟨#[62]⟩:ByteArray) ?_;exact zqX (S01234 W ga1 ga2 HB HN HC2)
     ·refine zqL (.string b2) rfl (.pointer (some ⟨ga2,z2,none⟩)) (K8 HC2.2.2) ?_;exact zqX (S01345 W ga1 ga2 HB HN HC1)
    have S1345:∀ (W:World) (ga2:Nat),But g w W→Nums W g L (P+2)→wpAny Tryz.prog .any o q 12 (bL 24 2040887) (a_1345 ga2) W:=by
     intro W ga2 HB HN;simp only [a_1345,a_134,a_13,a_1,a_,a0,Act.put,zZ,zY,zX];refine zqo 3 rfl ?_;refine Q7 (Q4m rfl) ?_;refine zqI 6 82 (.pointer (some ⟨W.heap.size,z1,none⟩)) rfl rfl (.slice (some ⟨W.heap.size,0,none⟩) 2 2) (.int .i64 (z1:Int)) ?_;exact zqX (S01345 _ W.heap.size ga2 (HB.alloc _) (HN.alloc _) (hd.o W HN.lt))
    have S013:∀ (W:World) (ga1:Nat) (ga2:Nat),But g w W→Nums W g L (P+1)→CellK g W ga1 z1 b1→CellK g W ga2 z2 b2→wpAny Tryz.prog .any o q 13 (bL 24 205951) (a_013 ga1 ga2) W:=by
     intro W ga1 ga2 HB HN HC1 HC2;simp only [a_013,a_01,a_0,a_,a0,Act.put,zZ,zY,zX];refine zqt 7 18 rfl rfl ?_ ?_
     ·refine zqL (.string b1) rfl (.pointer (some ⟨ga1,z1,none⟩)) (K8 HC1.2.2) ?_;refine zqD 8 84 rfl rfl t1 b1 ?_;refine zqD 9 85 rfl rfl t2 (⟨#[62]⟩:ByteArray) ?_;refine zqD 11 87 rfl rfl t3 rw_ ?_;refine zqD 12 88 rfl rfl t4 (⟨#[60,47]⟩:ByteArray) ?_;refine zqD 14 90 rfl rfl t5 nm ?_;refine zqD 15 91 rfl rfl t6 (⟨#[62]⟩:ByteArray) ?_;exact zqX (S0123 W ga1 ga2 HB HN HC2)
     ·refine Q2n (.pointer (some ⟨g,0,none⟩)) (.int .i64 3) rfl Tryz.func34 (CN2.o _ HN) ?_;rintro e w5 ⟨rfl,hb5,hn5⟩;refine ⟨.int .i64 (z2:Int),rfl,?_⟩;refine zqI 19 95 (.pointer (some ⟨ga2,z2,none⟩)) rfl rfl (.slice (some ⟨ga2,0,none⟩) 3 3) (.int .i64 (z2:Int)) ?_;exact zqX (S0134 w5 ga1 ga2 (HB.trans hb5) hn5 (HC1.but hb5) (HC2.but hb5))
    have S014:∀ (W:World) (ga1:Nat),But g w W→Nums W g L (P+2)→CellK g W ga1 z1 b1→wpAny Tryz.prog .any o q 13 (bL 24 402559) (a_014 ga1) W:=by
     intro W ga1 HB HN HC1;simp only [a_014,a_01,a_0,a_,a0,Act.put,zZ,zY,zX];refine zqt 7 16 rfl rfl ?_ ?_
     ·refine zqL (.string b1) rfl (.pointer (some ⟨ga1,z1,none⟩)) (K8 HC1.2.2) ?_;refine zqD 8 84 rfl rfl t1 b1 ?_;refine zqD 9 85 rfl rfl t2 (⟨#[62]⟩:ByteArray) ?_;refine zqD 11 87 rfl rfl t3 rw_ ?_;refine zqD 12 88 rfl rfl t4 (⟨#[60,47]⟩:ByteArray) ?_;refine zqD 14 90 rfl rfl t5 nm ?_;refine zqD 15 91 rfl rfl t6 (⟨#[62]⟩:ByteArray) ?_;exact zqX (S0124 W ga1 HB HN)
     ·refine Q7 (Q2r rfl) ?_;refine zqI 19 95 (.pointer (some ⟨W.heap.size,z2,none⟩)) rfl rfl (.slice (some ⟨W.heap.size,0,none⟩) 3 3) (.int .i64 (z2:Int)) ?_;exact zqX (S0134 _ ga1 W.heap.size (HB.alloc _) (HN.alloc _) (HC1.alloc _) (ha.o W HN.lt))
    have S134:∀ (W:World) (ga2:Nat),But g w W→Nums W g L (P+2)→CellK g W ga2 z2 b2→wpAny Tryz.prog .any o q 13 (bL 24 992311) (a_134 ga2) W:=by
     intro W ga2 HB HN HC2;simp only [a_134,a_13,a_1,a_,a0,Act.put,zZ,zY,zX];refine zqt 3 20 rfl rfl ?_ ?_
     ·refine Q7 (Q4m rfl) ?_;refine zqI 6 82 (.pointer (some ⟨W.heap.size,z1,none⟩)) rfl rfl (.slice (some ⟨W.heap.size,0,none⟩) 2 2) (.int .i64 (z1:Int)) ?_;exact zqX (S0134 _ W.heap.size ga2 (HB.alloc _) (HN.alloc _) (hd.o W HN.lt) (HC2.alloc _))
     ·refine zqL (.string b2) rfl (.pointer (some ⟨ga2,z2,none⟩)) (K8 HC2.2.2) ?_;exact zqX (S1345 W ga2 HB HN)
    have S01:∀ (W:World) (ga1:Nat),But g w W→Nums W g L (P+1)→CellK g W ga1 z1 b1→wpAny Tryz.prog .any o q 14 (bL 24 140415) (a_01 ga1) W:=by
     intro W ga1 HB HN HC1;simp only [a_01,a_0,a_,a0,Act.put,zZ,zY,zX];refine zqh 7 16 18 rfl rfl rfl ?_ ?_ ?_
     ·refine zqL (.string b1) rfl (.pointer (some ⟨ga1,z1,none⟩)) (K8 HC1.2.2) ?_;refine zqD 8 84 rfl rfl t1 b1 ?_;refine zqD 9 85 rfl rfl t2 (⟨#[62]⟩:ByteArray) ?_;refine zqD 11 87 rfl rfl t3 rw_ ?_;refine zqD 12 88 rfl rfl t4 (⟨#[60,47]⟩:ByteArray) ?_;refine zqD 14 90 rfl rfl t5 nm ?_;refine zqD 15 91 rfl rfl t6 (⟨#[62]⟩:ByteArray) ?_;exact zqX (S012 W ga1 HB HN)
     ·refine Q7 (Q2r rfl) ?_;exact zqX (S013 _ ga1 W.heap.size (HB.alloc _) (HN.alloc _) (HC1.alloc _) (ha.o W HN.lt))
     ·refine Q2n (.pointer (some ⟨g,0,none⟩)) (.int .i64 3) rfl Tryz.func34 (CN2.o _ HN) ?_;rintro e w5 ⟨rfl,hb5,hn5⟩;refine ⟨.int .i64 (z2:Int),rfl,?_⟩;exact zqX (S014 w5 ga1 (HB.trans hb5) hn5 (HC1.but hb5))
    have S03:∀ (W:World) (ga1:Nat) (ga2:Nat),But g w W→Nums W g L (P+0)→CellK g W ga1 z1 b1→CellK g W ga2 z2 b2→wpAny Tryz.prog .any o q 15 (bL 24 205855) (a_03 ga1 ga2) W:=by
     intro W ga1 ga2 HB HN HC1 HC2;simp only [a_03,a_0,a_,a0,Act.put,zZ,zY,zX];refine zqo 5 rfl ?_;refine Q2n (.pointer (some ⟨g,0,none⟩)) (.int .i64 2) rfl Tryz.func34 (CN1.o _ HN) ?_;rintro e w5 ⟨rfl,hb5,hn5⟩;refine ⟨.int .i64 (z1:Int),rfl,?_⟩;refine zqI 6 82 (.pointer (some ⟨ga1,z1,none⟩)) rfl rfl (.slice (some ⟨ga1,0,none⟩) 2 2) (.int .i64 (z1:Int)) ?_;exact zqX (S013 w5 ga1 ga2 (HB.trans hb5) hn5 (HC1.but hb5) (HC2.but hb5))
    have S13:∀ (W:World) (ga2:Nat),But g w W→Nums W g L (P+1)→CellK g W ga2 z2 b2→wpAny Tryz.prog .any o q 15 (bL 24 205879) (a_13 ga2) W:=by
     intro W ga2 HB HN HC2;simp only [a_13,a_1,a_,a0,Act.put,zZ,zY,zX];refine zqt 3 18 rfl rfl ?_ ?_
     ·refine Q7 (Q4m rfl) ?_;refine zqI 6 82 (.pointer (some ⟨W.heap.size,z1,none⟩)) rfl rfl (.slice (some ⟨W.heap.size,0,none⟩) 2 2) (.int .i64 (z1:Int)) ?_;exact zqX (S013 _ W.heap.size ga2 (HB.alloc _) (HN.alloc _) (hd.o W HN.lt) (HC2.alloc _))
     ·refine Q2n (.pointer (some ⟨g,0,none⟩)) (.int .i64 3) rfl Tryz.func34 (CN2.o _ HN) ?_;rintro e w5 ⟨rfl,hb5,hn5⟩;refine ⟨.int .i64 (z2:Int),rfl,?_⟩;refine zqI 19 95 (.pointer (some ⟨ga2,z2,none⟩)) rfl rfl (.slice (some ⟨ga2,0,none⟩) 3 3) (.int .i64 (z2:Int)) ?_;exact zqX (S134 w5 ga2 (HB.trans hb5) hn5 (HC2.but hb5))
    have S14:∀ (W:World),But g w W→Nums W g L (P+2)→wpAny Tryz.prog .any o q 15 (bL 24 402487) a_14 W:=by
     intro W HB HN;simp only [a_14,a_1,a_,a0,Act.put,zZ,zY,zX];refine zqt 3 16 rfl rfl ?_ ?_
     ·refine Q7 (Q4m rfl) ?_;refine zqI 6 82 (.pointer (some ⟨W.heap.size,z1,none⟩)) rfl rfl (.slice (some ⟨W.heap.size,0,none⟩) 2 2) (.int .i64 (z1:Int)) ?_;exact zqX (S014 _ W.heap.size (HB.alloc _) (HN.alloc _) (hd.o W HN.lt))
     ·refine Q7 (Q2r rfl) ?_;refine zqI 19 95 (.pointer (some ⟨W.heap.size,z2,none⟩)) rfl rfl (.slice (some ⟨W.heap.size,0,none⟩) 3 3) (.int .i64 (z2:Int)) ?_;exact zqX (S134 _ W.heap.size (HB.alloc _) (HN.alloc _) (ha.o W HN.lt))
    have S0:∀ (W:World) (ga1:Nat),But g w W→Nums W g L (P+0)→CellK g W ga1 z1 b1→wpAny Tryz.prog .any o q 16 (bL 24 140319) (a_0 ga1) W:=by
     intro W ga1 HB HN HC1;simp only [a_0,a_,a0,Act.put,zZ,zY,zX];refine zqt 5 16 rfl rfl ?_ ?_
     ·refine Q2n (.pointer (some ⟨g,0,none⟩)) (.int .i64 2) rfl Tryz.func34 (CN1.o _ HN) ?_;rintro e w5 ⟨rfl,hb5,hn5⟩;refine ⟨.int .i64 (z1:Int),rfl,?_⟩;refine zqI 6 82 (.pointer (some ⟨ga1,z1,none⟩)) rfl rfl (.slice (some ⟨ga1,0,none⟩) 2 2) (.int .i64 (z1:Int)) ?_;exact zqX (S01 w5 ga1 (HB.trans hb5) hn5 (HC1.but hb5))
     ·refine Q7 (Q2r rfl) ?_;exact zqX (S03 _ ga1 W.heap.size (HB.alloc _) (HN.alloc _) (HC1.alloc _) (ha.o W HN.lt))
    have S1:∀ (W:World),But g w W→Nums W g L (P+1)→wpAny Tryz.prog .any o q 16 (bL 24 140343) a_1 W:=by
     intro W HB HN;simp only [a_1,a_,a0,Act.put,zZ,zY,zX];refine zqh 3 16 18 rfl rfl rfl ?_ ?_ ?_
     ·refine Q7 (Q4m rfl) ?_;refine zqI 6 82 (.pointer (some ⟨W.heap.size,z1,none⟩)) rfl rfl (.slice (some ⟨W.heap.size,0,none⟩) 2 2) (.int .i64 (z1:Int)) ?_;exact zqX (S01 _ W.heap.size (HB.alloc _) (HN.alloc _) (hd.o W HN.lt))
     ·refine Q7 (Q2r rfl) ?_;exact zqX (S13 _ W.heap.size (HB.alloc _) (HN.alloc _) (ha.o W HN.lt))
     ·refine Q2n (.pointer (some ⟨g,0,none⟩)) (.int .i64 3) rfl Tryz.func34 (CN2.o _ HN) ?_;rintro e w5 ⟨rfl,hb5,hn5⟩;refine ⟨.int .i64 (z2:Int),rfl,?_⟩;exact zqX (S14 w5 (HB.trans hb5) hn5)
    have S3:∀ (W:World) (ga2:Nat),But g w W→Nums W g L (P+0)→CellK g W ga2 z2 b2→wpAny Tryz.prog .any o q 16 (bL 24 205847) (a_3 ga2) W:=by
     intro W ga2 HB HN HC2;simp only [a_3,a_,a0,Act.put,zZ,zY,zX];refine zqt 3 5 rfl rfl ?_ ?_
     ·refine Q7 (Q4m rfl) ?_;exact zqX (S03 _ W.heap.size ga2 (HB.alloc _) (HN.alloc _) (hd.o W HN.lt) (HC2.alloc _))
     ·refine Q2n (.pointer (some ⟨g,0,none⟩)) (.int .i64 2) rfl Tryz.func34 (CN1.o _ HN) ?_;rintro e w5 ⟨rfl,hb5,hn5⟩;refine ⟨.int .i64 (z1:Int),rfl,?_⟩;exact zqX (S13 w5 ga2 (HB.trans hb5) hn5 (HC2.but hb5))
    have S:∀ (W:World),But g w W→Nums W g L (P+0)→wpAny Tryz.prog .any o q 24 (bL 24 0) a0 W:=by
     intro W HB HN;simp only [a0,Act.put,zZ,zY,zX];refine zqM 0 76 (.string D) rfl ?_;refine zqM 1 77 (.string nm) rfl ?_;refine zqD 2 78 rfl rfl (⟨#[60]⟩:ByteArray) nm ?_;refine zqM 4 80 (.pointer (some ⟨g,0,none⟩)) rfl ?_;refine zqM 10 86 (.string rw_) rfl ?_;refine zqM 13 89 (.string nm) rfl ?_;refine zqM 17 93 (.pointer (some ⟨g,0,none⟩)) rfl ?_;simp only [Act.put,zZ,zY,zX];refine zqh 3 5 16 rfl rfl rfl ?_ ?_ ?_
     ·refine Q7 (Q4m rfl) ?_;exact zqX (S0 _ W.heap.size (HB.alloc _) (HN.alloc _) (hd.o W HN.lt))
     ·refine Q2n (.pointer (some ⟨g,0,none⟩)) (.int .i64 2) rfl Tryz.func34 (CN1.o _ HN) ?_;rintro e w5 ⟨rfl,hb5,hn5⟩;refine ⟨.int .i64 (z1:Int),rfl,?_⟩;exact zqX (S1 w5 (HB.trans hb5) hn5)
     ·refine Q7 (Q2r rfl) ?_;exact zqX (S3 _ W.heap.size (HB.alloc _) (HN.alloc _) (ha.o W HN.lt))
    have Z:=S _ hs.o ht.o;simp only [a0] at Z;exact Z
theorem Z4g (L:List Int) (g N n:Nat) (w:World) (h:Nums w g L N) (hn:n≤3) (hN:N≤10000):
 Calls Tryz.prog 86 #[.pointer (some ⟨g,0,none⟩),.int .i64 2,.int .i64 (n:Nat)] w (fun e w'=>e=.returned (.string (ofL (F2 L N n 2).data))∧(F2 L N n 2).data.length≤25000∧But g w w'):=by
 obtain ⟨R,hi⟩:∃ R:Ending→World→Prop,yK (R=fun e w'=>e=.returned (.string (ofL (F2 L N n 2).data))∧(F2 L N n 2).data.length≤25000∧But g w w'):=⟨_,rfl⟩;rw [←hi.o];obtain ⟨tgt,HT⟩:∃ tgt,yK (X7j L (X0 L (N+1) ((n:Int)+1)).toNat (X6z.getD (X0 L N 3).toNat []) (N+2)=tgt):=⟨_,rfl⟩;have hv:yK ((F2 L N n 2).data=X4 tgt.1):=by
  show _=_;unfold F2;rw [if_neg yX,if_pos rfl,HT.o];exact Q9h _
 rw [hv.o] at hi;clear hv;have hA:=X7 L N 3 yX;have ha:=X7 L (N+1) ((n:Int)+1) yY;have CX0:=zW (fun W h=>Z3 L g N 3 W h yY yX yX);have CX1:=zW (fun W h=>Z3 L g (N+1) ((n:Int)+1) W h yY yY yY);generalize X0 L N 3=z at *;generalize X0 L (N+1) ((n:Int)+1)=y at *;obtain ⟨m,rfl⟩:∃ m:Nat,y=(m:Int):=⟨y.toNat,yY⟩;rw [Int.toNat_natCast] at HT;have hm:m≤3:=yY;have hZ:((z.toNat:Nat):Int)=z:=yY;have hK:=h.lt;have hw:=zW h;have hz:yK ([⟨#[]⟩,⟨#[35,32,99,10]⟩,⟨#[10,32,10]⟩].getD z.toNat (⟨#[]⟩:ByteArray)=ofL (X4 (X6z.getD z.toNat []))∧(X4 (X6z.getD z.toNat [])).length≤20):=by
  rcases (show z=0∨z=1∨z=2 by omega) with rfl | rfl | rfl<;>exact ⟨rfl,yX⟩
 clear h ha;go_enter Tryz.func86,Tryz.ntmps86
 go_wp2_with fail
 refine (CX0.o _ (by exact hw.o.alloc (.cells #[.string ⟨#[]⟩,.string ⟨#[35,32,99,10]⟩,.string ⟨#[10,32,10]⟩] 9))).mono ?_;rintro e w1 ⟨rfl,hb1',hn1⟩;have q:=C5 (w:=w) (xs:=[⟨#[]⟩,⟨#[35,32,99,10]⟩,⟨#[10,32,10]⟩]) (t:=9) z hA.1 (by simpa using hA.2) hK (by exact hb1');rw [hz.o.1] at q;have hd:=zW (((But.refl g w).alloc (.cells #[.string ⟨#[]⟩,.string ⟨#[35,32,99,10]⟩,.string ⟨#[10,32,10]⟩] 9)).trans hb1');have hg:=zW hn1;have hP:=hz.o.2;clear hb1' hn1 hw CX0;go_wp2_with (go_at_call 34;refine (CX1.o _ (by exact hg.o)).mono ?_;rintro e w2 ⟨rfl,ha,hc⟩;have hf:=zW (hd.o.trans ha);have hh:=zW hc;clear ha hc)
 go_loopg [7,9] m (fun gk sv iv wr=>∃ (i k:Nat) (ms:List RL) (M:Nat),iv=.int .i64 (i:Nat)∧sv=.string (ofL (X4 ms))∧k+i=m∧M≤N+2+503 * k∧(X4 ms).length≤20+7000 * k∧yK (X7j L i ms M=tgt)∧yK (But g w wr)∧yK (Nums wr g L M)∧i≤gk)
 case atStart=>exact ⟨m,0,X6z.getD z.toNat [],N+2,rfl,rfl,yY,yY,Nat.le_trans hP yY,HT.o,hf.o,hh.o,yQ⟩
 case round=>
  clear HT hd hg hf hh q;obtain ⟨i,k,ms,M,rfl,rfl,hY,hM,hB,HG,HB,HN,hgk⟩:=hrel;cases i with
  | zero=>
    have he:tgt=(ms,M):=HG.o.symm;rw [he] at hi;clear HG he;go_wp2_with fail
    first | go_ret | skip
    rw [hi.o];exact ⟨rfl,by show (X4 ms).length≤25000;omega,HB.o⟩
  | succ i=>
    have hX:(0:Int) < ((i+1:Nat):Int):=yY;have hk:=HG.o;rw [X7j] at hk;have hy:yK (E8 2 L M=V0 2 L (Y2 (U3 false L M ((5:Nat):Int)).1) (U3 false L M ((5:Nat):Int)).2):=rfl;have hF:=Z9b 2 (.inr (.inl rfl)) L M;have hF':FOkW 2 (U3 false L M ((5:Nat):Int)).1:=hF;obtain ⟨_,_,u3⟩:=Q0x 2 (.inr (.inl rfl)) L M;obtain ⟨u4,_,_⟩:=X1o 2 (.inr (.inl rfl)) L M;have hI:(U3 false L M ((5:Nat):Int)).2≤M+73:=(by have:=(Q5t false L M 5 yX).2.2.2.2.2;omega);have CF:=zW (fun W h=>Q5u L g M 5 W h yX yY);have CR:=zW (fun (A:Option Addr) (c:Nat) (W:World) h hQ=>X7g 2 (.inr (.inl rfl)) L g (U3 false L M ((5:Nat):Int)).2 (U3 false L M ((5:Nat):Int)).1 A c W h hQ hF' yY);rw [←hy.o] at CR;generalize E8 2 L M=u at *;generalize U3 false L M ((5:Nat):Int)=fr at *;obtain ⟨f,fN⟩:=fr;simp only at CR hI;have c3:=X7 L u.2 3 yX;have CNN:=zW (fun W h=>Z3 L g u.2 3 W h yY yX yX);generalize X0 L u.2 3=zs at *;have hp:yK ([⟨#[]⟩,⟨#[35,120,10]⟩,⟨#[10]⟩].getD zs.toNat (⟨#[]⟩:ByteArray)=ofL (X4 (Q9f.getD zs.toNat []))∧(X4 (Q9f.getD zs.toNat [])).length≤5):=by
     rcases (show zs=0∨zs=1∨zs=2 by omega) with rfl | rfl | rfl<;>exact ⟨rfl,yX⟩
    have CD:=zW (fun W=>X7c (i+1) yY yY W);rw [←Y1h (i+1) yY] at CD;obtain ⟨b2,ha⟩:∃ b2,yK (ofL (X4 (Q9f.getD zs.toNat []))=b2):=⟨_,rfl⟩;obtain ⟨nm,hr⟩:∃ nm,yK (ofL (Q0z (i+1))=nm):=⟨_,rfl⟩;obtain ⟨rw_,hs⟩:∃ rw_,yK (ofL (Q2 u.1)=rw_):=⟨_,rfl⟩;obtain ⟨D,hD⟩:∃ D,yK (ofL (X4 ms)=D):=⟨_,rfl⟩;rw [hr.o] at CD;have hH:b2.size≤5:=(by rw [←ha.o,Q6];exact hp.o.2);have hO:nm.size≤5:=(by rw [←hr.o,Q6];show 1≤5;decide);have hR:rw_.size≤6880:=(by rw [←hs.o,Q6];exact u4);have hT:D.size≤25000:=(by rw [←hD.o,Q6];omega);have hu:yK (D++((⟨#[107]⟩:ByteArray)++nm++(⟨#[61]⟩:ByteArray)++rw_++(⟨#[10]⟩:ByteArray)++b2)=ofL (X4 (ms++(.unit (107::Q0z (i+1)) u.1::Q9f.getD zs.toNat [])))):=by
     show _=_;rw [←hD.o,←hr.o,←ha.o,←hs.o,X0y,show X4 (.unit (107::Q0z (i+1)) u.1::Q9f.getD zs.toNat [])=((107::Q0z (i+1))++(61::(Q2 u.1++[10])))++X4 (Q9f.getD zs.toNat []) from rfl];apply ByteArray.ext;apply Array.toList_inj.1;simp [ofL]
    have hL:(X4 (ms++(.unit (107::Q0z (i+1)) u.1::Q9f.getD zs.toNat []))).length≤20+7000 * (k+1):=by
     have:=congrArg ByteArray.size hu.o;rw [Q6] at this;rw [←this];have hS:D.size≤20+7000 * k:=(by rw [←hD.o,Q6];exact hB);simp only [ByteArray.size_append];show D.size+(1+nm.size+1+rw_.size+1+b2.size)≤_;omega
    have hE:=zW hk;have hV:=HN.o.lt;have Ha:((zs.toNat:Nat):Int)=zs:=yY;clear HG hk hy hF hF' u4 hB;rw [hD.o];go_wp2_with fail
    refine (CF.o _ (by exact HN.o)).mono ?_;rintro e w1 ⟨v,rfl,ho,hb,hn1⟩;obtain ⟨Af,cf,rfl⟩:=Q0 ho;have hd:=zW (HB.o.trans hb);have hg:=zW hn1;have hx:yK (∀ W,But g w1 W→RdT W (.slice Af f.length cf) f):=fun W hW=>OwnE.rd Q5 (Q8 ho fun j hj=>hW.block j (ho.lt j hj).2 (by have:=(ho.lt j hj).1;omega));clear ho hb hn1 HB HN CF;go_wp2_with fail
    refine (CR.o _ _ _ (by exact hg.o) (by exact hx.o)).mono ?_;rintro e w2 ⟨rfl,hb,hc⟩;have hf:=zW (hd.o.trans hb);have hh:=zW hc;have hU:=hc.lt;rw [hs.o];clear hb hc hd hg CR hx;go_wp2_with (go_at_call 134;refine (CD.o _).mono ?_;rintro e w3 ⟨rfl,hq⟩;have ht:=zW (hf.o.trans (.of_below hq));have hl:=zW (hh.o.below hq yQ);clear hq)
    have hJ:=hl.o.lt;refine (CNN.o _ (by exact hl.o.alloc (.cells #[.string ⟨#[]⟩,.string ⟨#[35,120,10]⟩,.string ⟨#[10]⟩] 9))).mono ?_;rintro e w4 ⟨rfl,hb4,hn4⟩;have q:=C5 (w:=w3) (xs:=[⟨#[]⟩,⟨#[35,120,10]⟩,⟨#[10]⟩]) (t:=9) zs c3.1 (by simpa using c3.2) hJ (by exact hb4);rw [hp.o.1,ha.o] at q;have hC:=zW ((ht.o.alloc (.cells #[.string ⟨#[]⟩,.string ⟨#[35,120,10]⟩,.string ⟨#[10]⟩] 9)).trans hb4);have hG:=zW hn4;clear hb4 hn4 hf hh CNN ht hl hp;go_wp2_with fail
    go_roundg i
    case measure=>omega
    case rel=>exact ⟨i,k+1,_,u.2+1,rfl,congrArg Value.string hu.o,yY,yY,hL,hE.o,hC.o,hG.o,yQ⟩
theorem Y8p {o:Oper} {a:Act} {w:World} (ho:o.op=.buildSlice 79 3 #[(0,.const (.string ⟨#[]⟩)),(1,.const (.string ⟨#[55,44]⟩)),(2,.const (.string ⟨#[120,44]⟩))]):(execOp a.eval o).run Tryz.prog w=.ok (.value (.slice (some ⟨w.heap.size,0,none⟩) 3 3)) (w.alloc (.cells #[.string ⟨#[]⟩,.string ⟨#[55,44]⟩,.string ⟨#[120,44]⟩] 9)):=by
 have h0:a.eval (.const (.string ⟨#[]⟩))=.string ⟨#[]⟩:=rfl;have h1:a.eval (.const (.string ⟨#[55,44]⟩))=.string ⟨#[55,44]⟩:=rfl;have h2:a.eval (.const (.string ⟨#[120,44]⟩))=.string ⟨#[120,44]⟩:=rfl;generalize a.eval=ρ at h0 h1 h2 ⊢;unfold execOp;simp only [ho];go_simp
theorem Y8q {o:Oper} {a:Act} {w:World} (ho:o.op=.buildSlice 79 3 #[(0,.const (.string ⟨#[]⟩)),(1,.const (.string ⟨#[]⟩)),(2,.const (.string ⟨#[44,34,121,34]⟩))]):(execOp a.eval o).run Tryz.prog w=.ok (.value (.slice (some ⟨w.heap.size,0,none⟩) 3 3)) (w.alloc (.cells #[.string ⟨#[]⟩,.string ⟨#[]⟩,.string ⟨#[44,34,121,34]⟩] 9)):=by
 have h0:a.eval (.const (.string ⟨#[]⟩))=.string ⟨#[]⟩:=rfl;have h1:a.eval (.const (.string ⟨#[44,34,121,34]⟩))=.string ⟨#[44,34,121,34]⟩:=rfl;generalize a.eval=ρ at h0 h1 ⊢;unfold execOp;simp only [ho];go_simp
theorem Z4h (L:List Int) (g N n:Nat) (w:World) (h:Nums w g L N) (hn:n≤3) (hN:N≤10000):
 Calls Tryz.prog 86 #[.pointer (some ⟨g,0,none⟩),.int .i64 3,.int .i64 (n:Nat)] w (fun e w'=>e=.returned (.string (ofL (F2 L N n 3).data))∧(F2 L N n 3).data.length≤25000∧But g w w'):=by
 obtain ⟨R,hk⟩:∃ R:Ending→World→Prop,yK (R=fun e w'=>e=.returned (.string (ofL (F2 L N n 3).data))∧(F2 L N n 3).data.length≤25000∧But g w w'):=⟨_,rfl⟩;rw [←hk.o];obtain ⟨tgt,HT⟩:∃ tgt,yK (X2u L (X0 L N 3).toNat (X0 L (N+1) ((n:Int)+1)).toNat 0 [] (N+2)=tgt):=⟨_,rfl⟩;have hB:yK ((F2 L N n 3).data=U1 (hdA.getD (X0 L N 3).toNat []) (hdB.getD (X0 L N 3).toNat []) tgt.1):=by
  show _=_;unfold F2;rw [if_neg yX,if_neg yX,HT.o];exact Q9i _ _ _
 rw [hB.o] at hk;clear hB;have hc:=X7 L N 3 yX;have ha:=X7 L (N+1) ((n:Int)+1) yY;have CX0:=zW (fun W h=>Z3 L g N 3 W h yY yX yX);have CX1:=zW (fun W h=>Z3 L g (N+1) ((n:Int)+1) W h yY yY yY);generalize X0 L N 3=z at *;generalize X0 L (N+1) ((n:Int)+1)=y at *;obtain ⟨m,rfl⟩:∃ m:Nat,y=(m:Int):=⟨y.toNat,yY⟩;rw [Int.toNat_natCast] at HT;have hm:m≤3:=yY;have hX:((z.toNat:Nat):Int)=z:=yY;have hR:=h.lt;have hC:=zW h;have hs:yK ([⟨#[116,101,120,116]⟩,⟨#[105,100,44,116,101,120,116]⟩,⟨#[34,97,44,98,34,44,116,101,120,116,44,99]⟩].getD z.toNat (⟨#[]⟩:ByteArray)=ofL (R2 (hdA.getD z.toNat []) (hdB.getD z.toNat []))∧(R2 (hdA.getD z.toNat []) (hdB.getD z.toNat [])).length≤20∧((R2 (hdA.getD z.toNat []) (hdB.getD z.toNat [])).length:Int) / 6=z):=by
  rcases (show z=0∨z=1∨z=2 by omega) with rfl | rfl | rfl<;>exact ⟨rfl,yX,yX⟩
 clear h ha;go_enter Tryz.func86,Tryz.ntmps86
 go_wp2_with fail
 refine (CX0.o _ (by exact hC.o.alloc (.cells #[.string ⟨#[116,101,120,116]⟩,.string ⟨#[105,100,44,116,101,120,116]⟩,.string ⟨#[34,97,44,98,34,44,116,101,120,116,44,99]⟩] 9))).mono ?_;rintro e w1 ⟨rfl,hb1',hn1⟩;have q:=C5 (w:=w) (xs:=[⟨#[116,101,120,116]⟩,⟨#[105,100,44,116,101,120,116]⟩,⟨#[34,97,44,98,34,44,116,101,120,116,44,99]⟩]) (t:=9) z hc.1 (by simpa using hc.2) hR (by exact hb1');rw [hs.o.1] at q;have hf:=zW (((But.refl g w).alloc (.cells #[.string ⟨#[116,101,120,116]⟩,.string ⟨#[105,100,44,116,101,120,116]⟩,.string ⟨#[34,97,44,98,34,44,116,101,120,116,44,99]⟩] 9)).trans hb1');have hg:=zW hn1;have hy:=hs.o.2;clear hb1' hn1 hC CX0;obtain ⟨hw,hl⟩:∃ hw,yK (ofL (R2 (hdA.getD z.toNat []) (hdB.getD z.toNat []))=hw):=⟨_,rfl⟩;have hJ:(hw.size:Int) / 6=z:=(by rw [←hl.o,Q6];exact hs.o.2.2);have hV:Int.tdiv (hw.size:Int) 6=z:=(by rw [Int.tdiv_eq_ediv_of_nonneg yY];exact hJ);have He:hw.size≤20:=(by rw [←hl.o,Q6];exact hy.1);rw [hl.o] at q;obtain ⟨c,rfl⟩:∃ c:Nat,z=(c:Int):=⟨z.toNat,yY⟩;rw [Int.toNat_natCast] at *;have hH:c < 3:=yY;have hP:(c:Int) < 3:=yY;clear hX hc;go_wp2_with (go_at_call 34;refine (CX1.o _ (by exact hg.o)).mono ?_;rintro e w2 ⟨rfl,ha,hd⟩;have hh:=zW (hf.o.trans ha);have hi:=zW hd;clear ha hd)
 clear hJ hV;go_loopg [7,9] m (fun gk sv iv wr=>∃ (i k:Nat) (ms:List Rc) (M:Nat),iv=.int .i64 (i:Nat)∧sv=.string (ofL (U1 (hdA.getD c []) (hdB.getD c []) ms))∧k+i=m∧M≤N+2+503 * k∧(U1 (hdA.getD c []) (hdB.getD c []) ms).length≤20+7000 * k∧yK (X2u L c i k ms M=tgt)∧yK (But g w wr)∧yK (Nums wr g L M)∧i≤gk)
 case atStart=>exact ⟨m,0,[],N+2,rfl,by rw [←hl.o];simp [U1],yY,yY,by (have:=hy.1);simpa [U1] using this,HT.o,hh.o,hi.o,yQ⟩
 case round=>
  clear HT hf hg hh hi q hy;obtain ⟨i,k,ms,M,rfl,rfl,Hd,hM,hI,HG,HB,HN,hgk⟩:=hrel;cases i with
  | zero=>
    have he:tgt=(ms,M):=HG.o.symm;rw [he] at hk;clear HG he;go_wp2_with fail
    first | go_ret | skip
    rw [hk.o];exact ⟨rfl,by show (U1 (hdA.getD c []) (hdB.getD c []) ms).length≤25000;omega,HB.o⟩
  | succ i=>
    have Hc:(0:Int) < ((i+1:Nat):Int):=yY;have hq:=HG.o;rw [X2u] at hq;have hG:yK (E8 3 L M=V0 3 L (Y2 (U3 false L M ((5:Nat):Int)).1) (U3 false L M ((5:Nat):Int)).2):=rfl;have hF:=Z9b 3 (.inr (.inr rfl)) L M;have hF':FOkW 3 (U3 false L M ((5:Nat):Int)).1:=hF;obtain ⟨_,_,u3⟩:=Q0x 3 (.inr (.inr rfl)) L M;obtain ⟨u4,_,_⟩:=X1o 3 (.inr (.inr rfl)) L M;have hQ:(U3 false L M ((5:Nat):Int)).2≤M+73:=(by have:=(Q5t false L M 5 yX).2.2.2.2.2;omega);have CF:=zW (fun W h=>Q5u L g M 5 W h yX yY);have CR:=zW (fun (A:Option Addr) (c:Nat) (W:World) h hT=>X7g 3 (.inr (.inr rfl)) L g (U3 false L M ((5:Nat):Int)).2 (U3 false L M ((5:Nat):Int)).1 A c W h hT hF' yY);rw [←hG.o] at CR;generalize E8 3 L M=u at *;generalize U3 false L M ((5:Nat):Int)=fr at *;obtain ⟨f,fN⟩:=fr;simp only at CR hQ;have ht:yK ([⟨#[]⟩,⟨#[55,44]⟩,⟨#[120,44]⟩].getD c (⟨#[]⟩:ByteArray)=ofL (F1 (rcA.getD c []))∧(F1 (rcA.getD c [])).length≤5):=by
     rcases (show c=0∨c=1∨c=2 by omega) with rfl | rfl | rfl<;>exact ⟨rfl,yX⟩
    have hu:yK ([⟨#[]⟩,⟨#[]⟩,⟨#[44,34,121,34]⟩].getD c (⟨#[]⟩:ByteArray)=ofL (T5 (rcB.getD c []))∧(T5 (rcB.getD c [])).length≤5):=by
     rcases (show c=0∨c=1∨c=2 by omega) with rfl | rfl | rfl<;>exact ⟨rfl,yX⟩
    obtain ⟨b1,hc⟩:∃ b1,yK (ofL (F1 (rcA.getD c []))=b1):=⟨_,rfl⟩;obtain ⟨b2,ha⟩:∃ b2,yK (ofL (T5 (rcB.getD c []))=b2):=⟨_,rfl⟩;obtain ⟨rw_,hz⟩:∃ rw_,yK (ofL (Q2 u.1)=rw_):=⟨_,rfl⟩;obtain ⟨D,hD⟩:∃ D,yK (ofL (U1 (hdA.getD c []) (hdB.getD c []) ms)=D):=⟨_,rfl⟩;have hL:b1.size≤5:=(by rw [←hc.o,Q6];exact ht.o.2);have hO:b2.size≤5:=(by rw [←ha.o,Q6];exact hu.o.2);have hU:rw_.size≤6880:=(by rw [←hz.o,Q6];exact u4);have hZ:D.size≤25000:=(by rw [←hD.o,Q6];omega);have hv:yK (∀ W:World,g < W.heap.size→CellK g (W.alloc (.cells #[.string ⟨#[]⟩,.string ⟨#[55,44]⟩,.string ⟨#[120,44]⟩] 9)) W.heap.size c b1):=fun W hW=>by
     have:=CellK.new W [⟨#[]⟩,⟨#[55,44]⟩,⟨#[120,44]⟩] 9 hW (by simpa using hH);rw [ht.o.1,hc.o] at this;exact this
    have hx:yK (∀ W:World,g < W.heap.size→CellK g (W.alloc (.cells #[.string ⟨#[]⟩,.string ⟨#[]⟩,.string ⟨#[44,34,121,34]⟩] 9)) W.heap.size c b2):=fun W hW=>by
     have:=CellK.new W [⟨#[]⟩,⟨#[]⟩,⟨#[44,34,121,34]⟩] 9 hW (by simpa using hH);rw [hu.o.1,ha.o] at this;exact this
    have hA:yK (D++((⟨#[10]⟩:ByteArray)++b1++(⟨#[34]⟩:ByteArray)++rw_++(⟨#[34]⟩:ByteArray)++b2)=ofL (U1 (hdA.getD c []) (hdB.getD c []) (ms++[⟨rcA.getD c [],Q0z (k+1),u.1,rcB.getD c []⟩]))):=by
     show _=_;rw [←hD.o,←hc.o,←ha.o,←hz.o,Q9a];unfold Q6l;apply ByteArray.ext;apply Array.toList_inj.1;simp [ofL]
    have hS:(U1 (hdA.getD c []) (hdB.getD c []) (ms++[⟨rcA.getD c [],Q0z (k+1),u.1,rcB.getD c []⟩])).length≤20+7000 * (k+1):=by
     have:=congrArg ByteArray.size hA.o;rw [Q6] at this;rw [←this];have hY:D.size≤20+7000 * k:=(by rw [←hD.o,Q6];exact hI);simp only [ByteArray.size_append];show D.size+(1+b1.size+1+rw_.size+1+b2.size)≤_;omega
    have hK:=zW hq;have Hb:=HN.o.lt;clear HG hq hG hF hF' u4 hI ht hu;rw [hD.o];go_wp2_with fail
    refine (CF.o _ (by exact HN.o)).mono ?_;rintro e w1 ⟨v,rfl,ho,hb,hn1⟩;obtain ⟨Af,cf,rfl⟩:=Q0 ho;have hf:=zW (HB.o.trans hb);have hg:=zW hn1;have hE:yK (∀ W,But g w1 W→RdT W (.slice Af f.length cf) f):=fun W hW=>OwnE.rd Q5 (Q8 ho fun j hj=>hW.block j (ho.lt j hj).2 (by have:=(ho.lt j hj).1;omega));clear ho hb hn1 HB HN CF;go_wp2_with fail
    refine (CR.o _ _ _ (by exact hg.o) (by exact hE.o)).mono ?_;rintro e w2 ⟨rfl,hb,hd⟩;have hh:=zW (hf.o.trans hb);have hi:=zW hd;have Ha:=hd.lt;rw [hz.o];clear hb hd hf hg CR hE;go_upto_region 16 with fail
    have hp:yK (But g w w2.drew):=hh.o.drewN 1;have hr:yK (Nums w2.drew g L u.2):=hi.o;refine zqR (l0:=bL 17 0) 17 kr ?_;show let o:=_;let q:=_;let a0:=_;wpAny Tryz.prog _ o q _ _ a0 _
    intro o q a0;let a_:Act:=(((a0.put (some 53) (.string D)).put (some 55) (.int .i64 (c:Int))).put (some 60) (.string rw_)).put (some 64) (.int .i64 (c:Int))
    let a_0:Nat→Act:=fun ga1=>(a_.put (some 54) (.slice (some ⟨ga1,0,none⟩) 3 3)).put (some 56) (.pointer (some ⟨ga1,c,none⟩))
    let a_2:Nat→Act:=fun ga2=>(a_.put (some 63) (.slice (some ⟨ga2,0,none⟩) 3 3)).put (some 65) (.pointer (some ⟨ga2,c,none⟩))
    let a_01:Nat→Act:=fun ga1=>(((((a_0 ga1).put (some 57) (.string b1)).put (some 58) (.string ((⟨#[10]⟩:ByteArray)++b1))).put (some 59) (.string ((⟨#[10]⟩:ByteArray)++b1++(⟨#[34]⟩:ByteArray)))).put (some 61) (.string ((⟨#[10]⟩:ByteArray)++b1++(⟨#[34]⟩:ByteArray)++rw_))).put (some 62) (.string ((⟨#[10]⟩:ByteArray)++b1++(⟨#[34]⟩:ByteArray)++rw_++(⟨#[34]⟩:ByteArray)))
    let a_02:Nat→Nat→Act:=fun ga1 ga2=>((a_0 ga1).put (some 63) (.slice (some ⟨ga2,0,none⟩) 3 3)).put (some 65) (.pointer (some ⟨ga2,c,none⟩))
    let a_23:Nat→Act:=fun ga2=>(a_2 ga2).put (some 66) (.string b2)
    let a_012:Nat→Nat→Act:=fun ga1 ga2=>((a_01 ga1).put (some 63) (.slice (some ⟨ga2,0,none⟩) 3 3)).put (some 65) (.pointer (some ⟨ga2,c,none⟩))
    let a_023:Nat→Nat→Act:=fun ga1 ga2=>(a_02 ga1 ga2).put (some 66) (.string b2)
    let a_0123:Nat→Nat→Act:=fun ga1 ga2=>((((a_012 ga1 ga2).put (some 66) (.string b2)).put (some 67) (.string ((⟨#[10]⟩:ByteArray)++b1++(⟨#[34]⟩:ByteArray)++rw_++(⟨#[34]⟩:ByteArray)++b2))).put (some 68) (.string (D++((⟨#[10]⟩:ByteArray)++b1++(⟨#[34]⟩:ByteArray)++rw_++(⟨#[34]⟩:ByteArray)++b2)))).put (some 7) (.string (D++((⟨#[10]⟩:ByteArray)++b1++(⟨#[34]⟩:ByteArray)++rw_++(⟨#[34]⟩:ByteArray)++b2)))
    have S0123:∀ (W:World) (ga1:Nat) (ga2:Nat),But g w W→Nums W g L u.2→wpAny Tryz.prog .any o q 0 (bL 17 131071) (a_0123 ga1 ga2) W:=by
     intro W ga1 ga2 HB HN;simp only [a_0123,a_012,a_01,a_0,a_,a0,Act.put,zZ,zY,zX];refine wpAny_done yZ ?_ _;simp only [q];go_wp2_with fail
     go_roundg i
     case measure=>omega
     case rel=>exact ⟨i,k+1,_,u.2,rfl,congrArg Value.string hA.o,yY,yY,hS,hK.o,HB,HN,yQ⟩
    have S012:∀ (W:World) (ga1:Nat) (ga2:Nat),But g w W→Nums W g L u.2→CellK g W ga2 c b2→wpAny Tryz.prog .any o q 4 (bL 17 8191) (a_012 ga1 ga2) W:=by
     intro W ga1 ga2 HB HN HC2;simp only [a_012,a_01,a_0,a_,a0,Act.put,zZ,zY,zX];refine zqo 13 rfl ?_;refine zqL (.string b2) rfl (.pointer (some ⟨ga2,c,none⟩)) (K8 HC2.2.2) ?_;refine zqD 14 67 rfl rfl ((⟨#[10]⟩:ByteArray)++b1++(⟨#[34]⟩:ByteArray)++rw_++(⟨#[34]⟩:ByteArray)) b2 ?_;refine zqD 15 68 rfl rfl D ((⟨#[10]⟩:ByteArray)++b1++(⟨#[34]⟩:ByteArray)++rw_++(⟨#[34]⟩:ByteArray)++b2) ?_;refine zqG 16 7 (.string (D++((⟨#[10]⟩:ByteArray)++b1++(⟨#[34]⟩:ByteArray)++rw_++(⟨#[34]⟩:ByteArray)++b2))) rfl ?_;exact zqX (S0123 W ga1 ga2 HB HN)
    have S01:∀ (W:World) (ga1:Nat),But g w W→Nums W g L u.2→wpAny Tryz.prog .any o q 6 (bL 17 3071) (a_01 ga1) W:=by
     intro W ga1 HB HN;simp only [a_01,a_0,a_,a0,Act.put,zZ,zY,zX];refine zqo 10 rfl ?_;refine Q7 (v:=.slice (some ⟨W.heap.size,0,none⟩) 3 3) (w2:=W.alloc (.cells #[.string ⟨#[]⟩,.string ⟨#[]⟩,.string ⟨#[44,34,121,34]⟩] 9)) (Y8q rfl) ?_;refine zqI 12 65 (.pointer (some ⟨W.heap.size,c,none⟩)) rfl rfl (.slice (some ⟨W.heap.size,0,none⟩) 3 3) (.int .i64 (c:Int)) ?_;exact zqX (S012 (W.alloc (.cells #[.string ⟨#[]⟩,.string ⟨#[]⟩,.string ⟨#[44,34,121,34]⟩] 9)) ga1 W.heap.size (HB.alloc _) (HN.alloc _) (hx.o W HN.lt))
    have S023:∀ (W:World) (ga1:Nat) (ga2:Nat),But g w W→Nums W g L u.2→CellK g W ga1 c b1→wpAny Tryz.prog .any o q 8 (bL 17 15503) (a_023 ga1 ga2) W:=by
     intro W ga1 ga2 HB HN HC1;simp only [a_023,a_02,a_0,a_,a0,Act.put,zZ,zY,zX];refine zqo 4 rfl ?_;refine zqL (.string b1) rfl (.pointer (some ⟨ga1,c,none⟩)) (K8 HC1.2.2) ?_;refine zqD 5 58 rfl rfl (⟨#[10]⟩:ByteArray) b1 ?_;refine zqD 6 59 rfl rfl ((⟨#[10]⟩:ByteArray)++b1) (⟨#[34]⟩:ByteArray) ?_;refine zqD 8 61 rfl rfl ((⟨#[10]⟩:ByteArray)++b1++(⟨#[34]⟩:ByteArray)) rw_ ?_;refine zqD 9 62 rfl rfl ((⟨#[10]⟩:ByteArray)++b1++(⟨#[34]⟩:ByteArray)++rw_) (⟨#[34]⟩:ByteArray) ?_;refine zqD 14 67 rfl rfl ((⟨#[10]⟩:ByteArray)++b1++(⟨#[34]⟩:ByteArray)++rw_++(⟨#[34]⟩:ByteArray)) b2 ?_;refine zqD 15 68 rfl rfl D ((⟨#[10]⟩:ByteArray)++b1++(⟨#[34]⟩:ByteArray)++rw_++(⟨#[34]⟩:ByteArray)++b2) ?_;refine zqG 16 7 (.string (D++((⟨#[10]⟩:ByteArray)++b1++(⟨#[34]⟩:ByteArray)++rw_++(⟨#[34]⟩:ByteArray)++b2))) rfl ?_;exact zqX (S0123 W ga1 ga2 HB HN)
    have S02:∀ (W:World) (ga1:Nat) (ga2:Nat),But g w W→Nums W g L u.2→CellK g W ga1 c b1→CellK g W ga2 c b2→wpAny Tryz.prog .any o q 9 (bL 17 7311) (a_02 ga1 ga2) W:=by
     intro W ga1 ga2 HB HN HC1 HC2;simp only [a_02,a_0,a_,a0,Act.put,zZ,zY,zX];refine zqt 4 13 rfl rfl ?_ ?_
     ·refine zqL (.string b1) rfl (.pointer (some ⟨ga1,c,none⟩)) (K8 HC1.2.2) ?_;refine zqD 5 58 rfl rfl (⟨#[10]⟩:ByteArray) b1 ?_;refine zqD 6 59 rfl rfl ((⟨#[10]⟩:ByteArray)++b1) (⟨#[34]⟩:ByteArray) ?_;refine zqD 8 61 rfl rfl ((⟨#[10]⟩:ByteArray)++b1++(⟨#[34]⟩:ByteArray)) rw_ ?_;refine zqD 9 62 rfl rfl ((⟨#[10]⟩:ByteArray)++b1++(⟨#[34]⟩:ByteArray)++rw_) (⟨#[34]⟩:ByteArray) ?_;exact zqX (S012 W ga1 ga2 HB HN HC2)
     ·refine zqL (.string b2) rfl (.pointer (some ⟨ga2,c,none⟩)) (K8 HC2.2.2) ?_;exact zqX (S023 W ga1 ga2 HB HN HC1)
    have S23:∀ (W:World) (ga2:Nat),But g w W→Nums W g L u.2→wpAny Tryz.prog .any o q 10 (bL 17 15493) (a_23 ga2) W:=by
     intro W ga2 HB HN;simp only [a_23,a_2,a_,a0,Act.put,zZ,zY,zX];refine zqo 1 rfl ?_;refine Q7 (v:=.slice (some ⟨W.heap.size,0,none⟩) 3 3) (w2:=W.alloc (.cells #[.string ⟨#[]⟩,.string ⟨#[55,44]⟩,.string ⟨#[120,44]⟩] 9)) (Y8p rfl) ?_;refine zqI 3 56 (.pointer (some ⟨W.heap.size,c,none⟩)) rfl rfl (.slice (some ⟨W.heap.size,0,none⟩) 3 3) (.int .i64 (c:Int)) ?_;exact zqX (S023 (W.alloc (.cells #[.string ⟨#[]⟩,.string ⟨#[55,44]⟩,.string ⟨#[120,44]⟩] 9)) W.heap.size ga2 (HB.alloc _) (HN.alloc _) (hv.o W HN.lt))
    have S0:∀ (W:World) (ga1:Nat),But g w W→Nums W g L u.2→CellK g W ga1 c b1→wpAny Tryz.prog .any o q 11 (bL 17 2191) (a_0 ga1) W:=by
     intro W ga1 HB HN HC1;simp only [a_0,a_,a0,Act.put,zZ,zY,zX];refine zqt 4 10 rfl rfl ?_ ?_
     ·refine zqL (.string b1) rfl (.pointer (some ⟨ga1,c,none⟩)) (K8 HC1.2.2) ?_;refine zqD 5 58 rfl rfl (⟨#[10]⟩:ByteArray) b1 ?_;refine zqD 6 59 rfl rfl ((⟨#[10]⟩:ByteArray)++b1) (⟨#[34]⟩:ByteArray) ?_;refine zqD 8 61 rfl rfl ((⟨#[10]⟩:ByteArray)++b1++(⟨#[34]⟩:ByteArray)) rw_ ?_;refine zqD 9 62 rfl rfl ((⟨#[10]⟩:ByteArray)++b1++(⟨#[34]⟩:ByteArray)++rw_) (⟨#[34]⟩:ByteArray) ?_;exact zqX (S01 W ga1 HB HN)
     ·refine Q7 (v:=.slice (some ⟨W.heap.size,0,none⟩) 3 3) (w2:=W.alloc (.cells #[.string ⟨#[]⟩,.string ⟨#[]⟩,.string ⟨#[44,34,121,34]⟩] 9)) (Y8q rfl) ?_;refine zqI 12 65 (.pointer (some ⟨W.heap.size,c,none⟩)) rfl rfl (.slice (some ⟨W.heap.size,0,none⟩) 3 3) (.int .i64 (c:Int)) ?_;exact zqX (S02 (W.alloc (.cells #[.string ⟨#[]⟩,.string ⟨#[]⟩,.string ⟨#[44,34,121,34]⟩] 9)) ga1 W.heap.size (HB.alloc _) (HN.alloc _) (HC1.alloc _) (hx.o W HN.lt))
    have S2:∀ (W:World) (ga2:Nat),But g w W→Nums W g L u.2→CellK g W ga2 c b2→wpAny Tryz.prog .any o q 11 (bL 17 7301) (a_2 ga2) W:=by
     intro W ga2 HB HN HC2;simp only [a_2,a_,a0,Act.put,zZ,zY,zX];refine zqt 1 13 rfl rfl ?_ ?_
     ·refine Q7 (v:=.slice (some ⟨W.heap.size,0,none⟩) 3 3) (w2:=W.alloc (.cells #[.string ⟨#[]⟩,.string ⟨#[55,44]⟩,.string ⟨#[120,44]⟩] 9)) (Y8p rfl) ?_;refine zqI 3 56 (.pointer (some ⟨W.heap.size,c,none⟩)) rfl rfl (.slice (some ⟨W.heap.size,0,none⟩) 3 3) (.int .i64 (c:Int)) ?_;exact zqX (S02 (W.alloc (.cells #[.string ⟨#[]⟩,.string ⟨#[55,44]⟩,.string ⟨#[120,44]⟩] 9)) W.heap.size ga2 (HB.alloc _) (HN.alloc _) (hv.o W HN.lt) (HC2.alloc _))
     ·refine zqL (.string b2) rfl (.pointer (some ⟨ga2,c,none⟩)) (K8 HC2.2.2) ?_;exact zqX (S23 W ga2 HB HN)
    have S:∀ (W:World),But g w W→Nums W g L u.2→wpAny Tryz.prog .any o q 17 (bL 17 0) a0 W:=by
     intro W HB HN;simp only [a0,Act.put,zZ,zY,zX];refine zqM 0 53 (.string D) rfl ?_;refine zqM 2 55 (.int .i64 (c:Int)) rfl ?_;refine zqM 7 60 (.string rw_) rfl ?_;refine zqM 11 64 (.int .i64 (c:Int)) rfl ?_;simp only [Act.put,zZ,zY,zX];refine zqt 1 10 rfl rfl ?_ ?_
     ·refine Q7 (v:=.slice (some ⟨W.heap.size,0,none⟩) 3 3) (w2:=W.alloc (.cells #[.string ⟨#[]⟩,.string ⟨#[55,44]⟩,.string ⟨#[120,44]⟩] 9)) (Y8p rfl) ?_;refine zqI 3 56 (.pointer (some ⟨W.heap.size,c,none⟩)) rfl rfl (.slice (some ⟨W.heap.size,0,none⟩) 3 3) (.int .i64 (c:Int)) ?_;exact zqX (S0 (W.alloc (.cells #[.string ⟨#[]⟩,.string ⟨#[55,44]⟩,.string ⟨#[120,44]⟩] 9)) W.heap.size (HB.alloc _) (HN.alloc _) (hv.o W HN.lt))
     ·refine Q7 (v:=.slice (some ⟨W.heap.size,0,none⟩) 3 3) (w2:=W.alloc (.cells #[.string ⟨#[]⟩,.string ⟨#[]⟩,.string ⟨#[44,34,121,34]⟩] 9)) (Y8q rfl) ?_;refine zqI 12 65 (.pointer (some ⟨W.heap.size,c,none⟩)) rfl rfl (.slice (some ⟨W.heap.size,0,none⟩) 3 3) (.int .i64 (c:Int)) ?_;exact zqX (S2 (W.alloc (.cells #[.string ⟨#[]⟩,.string ⟨#[]⟩,.string ⟨#[44,34,121,34]⟩] 9)) W.heap.size (HB.alloc _) (HN.alloc _) (hx.o W HN.lt))
    have Z:=S _ hp.o hr.o;simp only [a0] at Z;exact Z
theorem Z1r (fmt:Int) (r:List UInt8) (h:ElOk fmt r none):fmt=2:=by
 cases h;rfl
def kE (o:Option Tk):Int:=(o.map (·.k)).getD 0
def tE (o:Option Tk):ByteArray:=(o.map (·.t)).getD ⟨#[]⟩
theorem Y1j (fmt:Int) (hf:E7 fmt) (s:ByteArray) (r l:List UInt8) (o:Option Tk) (w:World) (hs:s.data.toList=r++l) (hsz:s.size≤1000000) (h:ElOk fmt r o) (hl:o=none→l.head? ≠some 32∧l.head? ≠some 9):
 Calls Tryz.prog 48 #[.int .i64 fmt,.string s] w (El7 (kE o) (tE o) r.length w):=by
 have HA:=zW ((Below.refl w.heap.size w).alloc yQ (.cells #[.int .i64 0,.string ⟨#[]⟩,.int .i64 0] 31));rcases hf with rfl | rfl | rfl
 ·cases o with
  | none=>exact absurd (Z1r _ _ h) yX
  | some x=>
    have CM:=zW (fun W=>V4j s r l x W hs hsz h);clear hs h hl;show Calls _ _ _ _ (El7 x.k x.t r.length w);go_enter Tryz.func48,Tryz.ntmps48
    go_wp2_with (go_at_call 88;refine (CM.o _).mono ?_;rintro e w1 ⟨rfl,hb⟩;obtain ⟨z0,z1,z2,y0,y1,y2⟩:=T4 hb;have HB:=zW (HA.o.trans (hb.mono HA.o.size));clear hb)
    refine bodyPost_ret (E5 rfl _ _ w.heap.size x.k 0 x.t _ rfl rfl yU yU yU) rfl ?_;exact ⟨rfl,U2 HB.o _ _ _⟩
 ·have CM:=zW (fun W=>V1a s r l o W hs hsz h hl);clear hs h hl;change yK (∀ W,Calls Tryz.prog 89 #[.string s] W (El7 (kE o) (tE o) r.length W)) at CM
  go_enter Tryz.func48,Tryz.ntmps48
  go_wp2_with (go_at_call 89;refine (CM.o _).mono ?_;rintro e w1 ⟨rfl,hb⟩;obtain ⟨z0,z1,z2,y0,y1,y2⟩:=T4 hb;have HB:=zW (HA.o.trans (hb.mono HA.o.size));clear hb)
  refine bodyPost_ret (E5 rfl _ _ w.heap.size (kE o) 0 (tE o) _ rfl rfl yU yU yU) rfl ?_;exact ⟨rfl,U2 HB.o _ _ _⟩
 ·cases o with
  | none=>exact absurd (Z1r _ _ h) yX
  | some x=>
    have CM:=zW (fun W=>Z0n s r l x W hs hsz h);clear hs h hl;show Calls _ _ _ _ (El7 x.k x.t r.length w);go_enter Tryz.func48,Tryz.ntmps48
    go_wp2_with (go_at_call 90;refine (CM.o _).mono ?_;rintro e w1 ⟨rfl,hb⟩;obtain ⟨z0,z1,z2,y0,y1,y2⟩:=T4 hb;have HB:=zW (HA.o.trans (hb.mono HA.o.size));clear hb)
    refine bodyPost_ret (E5 rfl _ _ w.heap.size x.k 0 x.t _ rfl rfl yU yU yU) rfl ?_;exact ⟨rfl,U2 HB.o _ _ _⟩
end Go.Proofs.YtfkojnofbpdjdaaGreatDoor
